/- What Decode computes, of the reference 15: a contract of its call. -/
import Derived.Test.YtjbnhofdpklfoaaEnR
import Derived.Test.YtjbnhofdpklfoaaDe
import Derived.Test.YtjbnhofdpklfoaaRr
namespace Go.Proofs.Ytjbnhofdpklfoaa
open Go.RowKit
set_option linter.unusedSimpArgs false
set_option linter.unnecessarySimpa false
set_option linter.unusedVariables false

theorem renc_to {d : Bool} {s l : Int} {v : Value} (h : encV d s l = v) (w : World) :
    Calls Try.prog 18 #[.agg #[.bool d, .int .i64 s, .int .i64 l]] w fun e w' => e = .returned v ∧ Below w.heap.size w w' := by subst h; exact renc_any d s l w

theorem short_eqs (s : List UInt8) (hs : s.length < 9) : ∃ n1 r1 n2 r2 n3 q3, Rd.number ⟨s, 0⟩ 1 = (n1, r1) ∧ Rd.number r1 4 = (n2, r2) ∧ Rd.number r2 4 = (n3, ⟨q3, 2⟩) ∧ r1.s.length ≤ 8 ∧ r2.s.length ≤ 8 := by
  rcases s with _ | ⟨k, s⟩
  · exact ⟨_, _, _, _, _, _, Rd.number_short [] 1 (by decide) (by decide) (by decide), Rd.number_err _ _ 4 (by decide), Rd.number_err _ _ 4 (by decide), by simp, by simp⟩
  · have h1 := Rd.number_app [k] s 1 rfl (by decide) (by decide)
    simp at hs
    by_cases h4 : s.length < 4
    · exact ⟨_, _, _, _, _, _, h1, Rd.number_short s 4 (by omega) (by decide) (by decide), Rd.number_err _ _ 4 (by decide), by simp; omega, by simp; omega⟩
    · obtain ⟨a0, a1, a2, a3, t, rfl⟩ : ∃ a0 a1 a2 a3 t, s = a0 :: a1 :: a2 :: a3 :: t := by
        rcases s with _ | ⟨a0, _ | ⟨a1, _ | ⟨a2, _ | ⟨a3, t⟩⟩⟩⟩ <;> simp at h4
        exact ⟨a0, a1, a2, a3, t, rfl⟩
      have h2 := Rd.number_app [a0, a1, a2, a3] t 4 rfl (by decide) (by decide)
      simp at hs
      exact ⟨_, _, _, _, _, _, h1, h2, Rd.number_short t 4 (by omega) (by decide) (by decide), by simp; omega, by simp; omega⟩

set_option maxHeartbeats 1000000 in
theorem rdec_short (S : List UInt8) (hs : S.length < 9) (w : World) :
    Calls Try.prog 20 #[.string (bstr S)] w fun e w' => e = .returned (inoV (decL S)) ∧ Below w.heap.size w w' := by
  rw [decL_short hs]
  obtain ⟨n1, ⟨q1, e1⟩, n2, ⟨q2, e2⟩, n3, q3, h1, h2, h3, l1, l2⟩ := short_eqs S hs
  have N1 := Lib.hid h1
  have N2 := Lib.hid h2
  have N3 := Lib.hid h3
  have L1 : Hid (S.length ≤ 9223372036854775807) := by show _ ≤ _; omega
  have L2 : Hid (q1.length ≤ 9223372036854775807) := by show _ ≤ _; simp at l1; omega
  have L3 : Hid (q2.length ≤ 9223372036854775807) := by show _ ≤ _; simp at l2; omega
  clear h1 h2 h3 l1 l2 hs
  go_enter Try.func20, Try.ntmps20
  go_wp2_with fail
  obtain ⟨w1, hw1⟩ : ∃ w1, (w.alloc (.cells #[.bool false, .int .i64 0, .int .i64 0] 30)).alloc (.cells #[.string (bstr S), .int .i64 0] 56) = w1 := ⟨_, rfl⟩
  have hb1 : Blk w1 w.heap.size 30 #[.bool false, .int .i64 0, .int .i64 0] := by rw [← hw1]; exact (Blk.new _ _ _).alloc _
  have r1 : RrAt w1 (w.heap.size + 1) ⟨S, 0⟩ := by
    rw [← hw1]
    have := Blk.new (w.alloc (.cells #[.bool false, .int .i64 0, .int .i64 0] 30)) 56 #[.string (bstr S), .int .i64 0]
    simpa [RrAt] using this
  have hk1 : Below w.heap.size w w1 := by rw [← hw1]; exact ((Below.refl _ _).alloc (Nat.le_refl _) _).alloc (by simp) _
  have hz1 : w.heap.size < w1.heap.size := hb1.lt
  obtain ⟨g, hg⟩ : ∃ g, w.heap.size + 1 = g := ⟨_, rfl⟩
  have hgw : w.heap.size < g := by omega
  rw [hw1]
  rw [hg] at r1 ⊢
  clear hw1 hg
  refine (rnumber_to N1.out _ _ r1 L1.out).mono ?_
  rintro e w2 ⟨rfl, r2, b2⟩
  go_wp2_with fail
  refine (rnumber_to N2.out _ _ r2 L2.out).mono ?_
  rintro e w3 ⟨rfl, r3, b3⟩
  go_wp2_with fail
  refine (rnumber_to N3.out _ _ r3 L3.out).mono ?_
  rintro e w4 ⟨rfl, r4, b4⟩
  have z2 := b2.size
  have z3 := b3.size
  have k2 := b2.mono (B' := w1.heap.size) (S' := (· = g)) (Nat.le_refl _) (fun _ _ h => h)
  have k3 := b3.mono (B' := w1.heap.size) (S' := (· = g)) z2 (fun _ _ h => h)
  have k4 := b4.mono (B' := w1.heap.size) (S' := (· = g)) (Nat.le_trans z2 z3) (fun _ _ h => h)
  have kk := (k2.trans k3).trans k4
  have hb4 := hb1.keep kk hz1 (by omega)
  have hk4 := hk1.trans (kk.mono (B' := w.heap.size) (S' := fun _ => False) (by omega) (fun j hj e => by omega)).below
  have er := r4.cell 1
  simp at er
  obtain ⟨R, hR⟩ : ∃ R, w.heap.size = R := ⟨_, rfl⟩
  rw [hR] at hb4 hk4 ⊢
  have HR := Lib.hid hR
  clear hk1 hb1 b2 b3 b4 k2 k3 k4 kk hz1 z2 z3 r1 r2 r3 hgw hR
  have c0 := hb4.cell 0
  have c1 := hb4.cell 1
  have c2 := hb4.cell 2
  have f0 := hb4.frozen 0
  have f1 := hb4.frozen 1
  have f2 := hb4.frozen 2
  simp at c0 c1 c2
  have hz4 : R < w4.heap.size := hb4.lt
  clear hb4
  go_wp2
  exact bodyPost_ret (v := inoV ⟨false, 0, 0, 2⟩) (by simp [results, Try.results20, go_sem, inoV, *]) rfl ⟨rfl, by rw [HR.out]; repeat (first | exact hk4 | refine below_at ?_ (Nat.le_refl _) _ _ | refine Below.alloc ?_ (by simp; omega) _)⟩

theorem leB_four (a b c d : UInt8) : leB (leN [a, b, c, d]) 4 = [a, b, c, d] := by
  have ha := a.toNat_lt
  have hb := b.toNat_lt
  have hc := c.toNat_lt
  have hd := d.toNat_lt
  simp only [leN, leB]
  have e0 : (a.toNat + 256 * (b.toNat + 256 * (c.toNat + 256 * (d.toNat + 256 * 0)))) % 256 = a.toNat := by omega
  have e1 : (a.toNat + 256 * (b.toNat + 256 * (c.toNat + 256 * (d.toNat + 256 * 0)))) / 256 % 256 = b.toNat := by omega
  have e2 : (a.toNat + 256 * (b.toNat + 256 * (c.toNat + 256 * (d.toNat + 256 * 0)))) / 256 / 256 % 256 = c.toNat := by omega
  have e3 : (a.toNat + 256 * (b.toNat + 256 * (c.toNat + 256 * (d.toNat + 256 * 0)))) / 256 / 256 / 256 % 256 = d.toNat := by omega
  rw [e0, e1, e2, e3]
  simp

set_option maxHeartbeats 2000000 in
theorem rdec_long (S : List UInt8) (k a0 a1 a2 a3 b0 b1 b2 b3 : UInt8) (rest : List UInt8) (hS : S = k :: a0 :: a1 :: a2 :: a3 :: b0 :: b1 :: b2 :: b3 :: rest) (hr : S.length ≤ 140737488351232) (w : World) :
    Calls Try.prog 20 #[.string (bstr S)] w fun e w' => e = .returned (inoV (decL S)) ∧ Below w.heap.size w w' := by
  have hrl : rest.length ≤ 140737488351232 := by rw [hS] at hr; simp at hr; omega
  have L1 : Hid (S.length ≤ 9223372036854775807) := by show _ ≤ _; omega
  have L2 : Hid ((a0 :: a1 :: a2 :: a3 :: b0 :: b1 :: b2 :: b3 :: rest).length ≤ 9223372036854775807) := by show _ ≤ _; simp; omega
  have L3 : Hid ((b0 :: b1 :: b2 :: b3 :: rest).length ≤ 9223372036854775807) := by show _ ≤ _; simp; omega
  have n1 := Rd.number_app [k] (a0 :: a1 :: a2 :: a3 :: b0 :: b1 :: b2 :: b3 :: rest) 1 rfl (by decide) (by decide)
  simp only [List.cons_append, List.nil_append] at n1
  rw [← hS] at n1
  have n2 := Rd.number_app [a0, a1, a2, a3] (b0 :: b1 :: b2 :: b3 :: rest) 4 rfl (by decide) (by decide)
  have n3 := Rd.number_app [b0, b1, b2, b3] rest 4 rfl (by decide) (by decide)
  have hk := k.toNat_lt
  have ek : leN [k] = k.toNat := by simp [leN]
  rw [ek] at n1
  have hA := leN_lt [a0, a1, a2, a3]
  have hB := leN_lt [b0, b1, b2, b3]
  have fA := leB_four a0 a1 a2 a3
  have fB := leB_four b0 b1 b2 b3
  have hdec := decL_long k a0 a1 a2 a3 b0 b1 b2 b3 rest
  rw [← hS] at hdec
  rw [hdec]
  clear hdec
  simp only [List.length_cons, List.length_nil] at hA hB
  obtain ⟨x, hx⟩ : ∃ x, leN [a0, a1, a2, a3] = x := ⟨_, rfl⟩
  obtain ⟨y, hy⟩ : ∃ y, leN [b0, b1, b2, b3] = y := ⟨_, rfl⟩
  rw [hx] at n2 hA fA ⊢
  rw [hy] at n3 hB fB ⊢
  have henc : ∀ d : Bool, encL d x y = (if d then 1 else 0) :: a0 :: a1 :: a2 :: a3 :: b0 :: b1 :: b2 :: b3 :: [] := fun d => by
    unfold encL
    rw [Int.toNat_natCast, Int.toNat_natCast, fA, fB]; rfl
  have N1 := Lib.hid n1
  have N2 := Lib.hid n2
  have N3 := Lib.hid n3
  have hx4 : x ≤ 4294967295 := by simp at hA; omega
  have hy4 : y ≤ 4294967295 := by simp at hB; omega
  have hc4 : k.toNat ≤ 255 := by simp at hk; omega
  clear n1 n2 n3 ek hx hy hA hB hk fA fB
  cases hI : inB (x : Int) && inB (y : Int) with
  | false =>
    have hno : ¬ (x ≤ 2147483648 ∧ y ≤ 2147483648) := by
      intro h
      rw [inB_true.2 ⟨by omega, by omega⟩, inB_true.2 ⟨by omega, by omega⟩] at hI
      cases hI
    rw [if_neg (fun h => hno h.2.2)]
    have EN : Hid (encV ((k.toNat : Int) == 1) x y = .tuple #[.string (bstr []), .int .i64 1]) := by show _ = _; unfold encV; rw [hI]; rfl
    clear hI hno henc hS
    go_enter Try.func20, Try.ntmps20
    go_wp2_with fail
    obtain ⟨w1, hw1⟩ : ∃ w1, (w.alloc (.cells #[.bool false, .int .i64 0, .int .i64 0] 30)).alloc (.cells #[.string (bstr S), .int .i64 0] 56) = w1 := ⟨_, rfl⟩
    have hb1 : Blk w1 w.heap.size 30 #[.bool false, .int .i64 0, .int .i64 0] := by rw [← hw1]; exact (Blk.new _ _ _).alloc _
    have r1 : RrAt w1 (w.heap.size + 1) ⟨S, 0⟩ := by
      rw [← hw1]
      have := Blk.new (w.alloc (.cells #[.bool false, .int .i64 0, .int .i64 0] 30)) 56 #[.string (bstr S), .int .i64 0]
      simpa [RrAt] using this
    have hk1 : Below w.heap.size w w1 := by rw [← hw1]; exact ((Below.refl _ _).alloc (Nat.le_refl _) _).alloc (by simp) _
    have hz1 : w.heap.size < w1.heap.size := hb1.lt
    obtain ⟨g, hg⟩ : ∃ g, w.heap.size + 1 = g := ⟨_, rfl⟩
    have hgw : w.heap.size < g := by omega
    rw [hw1]
    rw [hg] at r1 ⊢
    clear hw1 hg
    refine (rnumber_to N1.out _ _ r1 L1.out).mono ?_
    rintro e w2 ⟨rfl, r2, b2⟩
    go_wp2_with fail
    refine (rnumber_to N2.out _ _ r2 L2.out).mono ?_
    rintro e w3 ⟨rfl, r3, b3⟩
    go_wp2_with fail
    refine (rnumber_to N3.out _ _ r3 L3.out).mono ?_
    rintro e w4 ⟨rfl, r4, b4⟩
    have z2 := b2.size
    have z3 := b3.size
    have k2 := b2.mono (B' := w1.heap.size) (S' := (· = g)) (Nat.le_refl _) (fun _ _ h => h)
    have k3 := b3.mono (B' := w1.heap.size) (S' := (· = g)) z2 (fun _ _ h => h)
    have k4 := b4.mono (B' := w1.heap.size) (S' := (· = g)) (Nat.le_trans z2 z3) (fun _ _ h => h)
    have kk := (k2.trans k3).trans k4
    have hb4 := hb1.keep kk hz1 (by omega)
    have hk4 := hk1.trans (kk.mono (B' := w.heap.size) (S' := fun _ => False) (by omega) (fun j hj e => by omega)).below
    have er := r4.cell 1
    simp at er
    obtain ⟨R, hR⟩ : ∃ R, w.heap.size = R := ⟨_, rfl⟩
    rw [hR] at hb4 hk4 ⊢
    have HR := Lib.hid hR
    clear hk1 hb1 b2 b3 b4 k2 k3 k4 kk hz1 z2 z3 r1 r2 r3 hgw hR
    go_wp2_with fail
    have hz4 : R < w4.heap.size := hb4.lt
    obtain ⟨w5, hw5⟩ : ∃ w5, w4.alloc (.cells #[.bool ((k.toNat : Int) == 1), .int .i64 x, .int .i64 y] 30) = w5 := ⟨_, rfl⟩
    obtain ⟨I, hI⟩ : ∃ I, w4.heap.size = I := ⟨_, rfl⟩
    have hb5 : Blk w5 R 30 #[.bool false, .int .i64 0, .int .i64 0] := by rw [← hw5]; exact hb4.alloc _
    have hi5 : Blk w5 I 30 #[.bool ((k.toNat : Int) == 1), .int .i64 x, .int .i64 y] := by rw [← hw5, ← hI]; exact Blk.new _ _ _
    have hk5 : Below R w w5 := by rw [← hw5]; exact hk4.alloc (by omega) _
    rw [hw5]
    rw [hI]
    clear hw5 hI hb4 hk4 hz4 er r4
    refine (renc_to EN.out w5).mono ?_
    rintro e w6 ⟨rfl, b6⟩
    have hb6 := hb5.below b6 hb5.lt
    have hi6 := hi5.below b6 hi5.lt
    have hz5 : R < w5.heap.size := hb5.lt
    have hk6 := hk5.trans (b6.mono (by omega))
    have hz6 : R < w6.heap.size := hb6.lt
    clear hb5 hi5 b6 hz5 hk5
    have c0 := hb6.cell 0
    have c1 := hb6.cell 1
    have c2 := hb6.cell 2
    have f0 := hb6.frozen 0
    have f1 := hb6.frozen 1
    have f2 := hb6.frozen 2
    simp at c0 c1 c2
    have i0 := hi6.cell 0
    have i1 := hi6.cell 1
    have i2 := hi6.cell 2
    simp at i0 i1 i2
    clear hb6 hi6
    go_wp2
    exact bodyPost_ret (v := inoV ⟨false, 0, 0, 3⟩) (by simp [results, Try.results20, go_sem, inoV, *]) rfl ⟨rfl, by rw [HR.out]; repeat (first | exact hk6 | refine below_at ?_ (Nat.le_refl _) _ _ | refine Below.alloc ?_ (by simp; omega) _)⟩
  | true =>
    have hI2 := hI
    simp only [Bool.and_eq_true, inB_true] at hI2
    by_cases h1 : k.toNat = 1
    · have hk1 : k = 1 := UInt8.toNat_inj.1 (by simpa using h1)
      have EN : Hid (encV true x y = .tuple #[.string (bstr (encL true x y)), .int .i64 0]) := by show _ = _; unfold encV; rw [hI]; rfl
      have hkk : ((k.toNat : Int) == 1) = true := by rw [beq_iff_eq]; omega
      by_cases h2 : rest = []
      · rw [if_pos ⟨h2, by omega, by omega, by omega⟩, show decide (k.toNat = 1) = true by simp [h1]]
        have hcmp : (encL true x y == S) = true := by rw [henc, hS, h2, hk1]; simp
        clear hI hI2 h1 h2 hS henc hk1
        go_enter Try.func20, Try.ntmps20
        go_wp2_with fail
        obtain ⟨w1, hw1⟩ : ∃ w1, (w.alloc (.cells #[.bool false, .int .i64 0, .int .i64 0] 30)).alloc (.cells #[.string (bstr S), .int .i64 0] 56) = w1 := ⟨_, rfl⟩
        have hb1 : Blk w1 w.heap.size 30 #[.bool false, .int .i64 0, .int .i64 0] := by rw [← hw1]; exact (Blk.new _ _ _).alloc _
        have r1 : RrAt w1 (w.heap.size + 1) ⟨S, 0⟩ := by
          rw [← hw1]
          have := Blk.new (w.alloc (.cells #[.bool false, .int .i64 0, .int .i64 0] 30)) 56 #[.string (bstr S), .int .i64 0]
          simpa [RrAt] using this
        have hk1 : Below w.heap.size w w1 := by rw [← hw1]; exact ((Below.refl _ _).alloc (Nat.le_refl _) _).alloc (by simp) _
        have hz1 : w.heap.size < w1.heap.size := hb1.lt
        obtain ⟨g, hg⟩ : ∃ g, w.heap.size + 1 = g := ⟨_, rfl⟩
        have hgw : w.heap.size < g := by omega
        rw [hw1]
        rw [hg] at r1 ⊢
        clear hw1 hg
        refine (rnumber_to N1.out _ _ r1 L1.out).mono ?_
        rintro e w2 ⟨rfl, r2, b2⟩
        go_wp2_with fail
        refine (rnumber_to N2.out _ _ r2 L2.out).mono ?_
        rintro e w3 ⟨rfl, r3, b3⟩
        go_wp2_with fail
        refine (rnumber_to N3.out _ _ r3 L3.out).mono ?_
        rintro e w4 ⟨rfl, r4, b4⟩
        have z2 := b2.size
        have z3 := b3.size
        have k2 := b2.mono (B' := w1.heap.size) (S' := (· = g)) (Nat.le_refl _) (fun _ _ h => h)
        have k3 := b3.mono (B' := w1.heap.size) (S' := (· = g)) z2 (fun _ _ h => h)
        have k4 := b4.mono (B' := w1.heap.size) (S' := (· = g)) (Nat.le_trans z2 z3) (fun _ _ h => h)
        have kk := (k2.trans k3).trans k4
        have hb4 := hb1.keep kk hz1 (by omega)
        have hk4 := hk1.trans (kk.mono (B' := w.heap.size) (S' := fun _ => False) (by omega) (fun j hj e => by omega)).below
        have er := r4.cell 1
        simp at er
        obtain ⟨R, hR⟩ : ∃ R, w.heap.size = R := ⟨_, rfl⟩
        rw [hR] at hb4 hk4 ⊢
        have HR := Lib.hid hR
        clear hk1 hb1 b2 b3 b4 k2 k3 k4 kk hz1 z2 z3 r1 r2 r3 hgw hR
        go_wp2_with fail
        have hz4 : R < w4.heap.size := hb4.lt
        obtain ⟨w5, hw5⟩ : ∃ w5, w4.alloc (.cells #[.bool true, .int .i64 x, .int .i64 y] 30) = w5 := ⟨_, rfl⟩
        obtain ⟨I, hI⟩ : ∃ I, w4.heap.size = I := ⟨_, rfl⟩
        have hb5 : Blk w5 R 30 #[.bool false, .int .i64 0, .int .i64 0] := by rw [← hw5]; exact hb4.alloc _
        have hi5 : Blk w5 I 30 #[.bool true, .int .i64 x, .int .i64 y] := by rw [← hw5, ← hI]; exact Blk.new _ _ _
        have hk5 : Below R w w5 := by rw [← hw5]; exact hk4.alloc (by omega) _
        rw [hw5]
        rw [hI]
        clear hw5 hI hb4 hk4 hz4 er r4
        refine (renc_to EN.out w5).mono ?_
        rintro e w6 ⟨rfl, b6⟩
        have hb6 := hb5.below b6 hb5.lt
        have hi6 := hi5.below b6 hi5.lt
        have hz5 : R < w5.heap.size := hb5.lt
        have hk6 := hk5.trans (b6.mono (by omega))
        have hz6 : R < w6.heap.size := hb6.lt
        clear hb5 hi5 b6 hz5 hk5
        have c0 := hb6.cell 0
        have c1 := hb6.cell 1
        have c2 := hb6.cell 2
        have f0 := hb6.frozen 0
        have f1 := hb6.frozen 1
        have f2 := hb6.frozen 2
        simp at c0 c1 c2
        have i0 := hi6.cell 0
        have i1 := hi6.cell 1
        have i2 := hi6.cell 2
        simp at i0 i1 i2
        clear hb6 hi6
        go_wp2
        exact bodyPost_ret (v := inoV ⟨true, x, y, 0⟩) (by simp [results, Try.results20, go_sem, inoV, *]) rfl ⟨rfl, by rw [HR.out]; repeat (first | exact hk6 | refine below_at ?_ (Nat.le_refl _) _ _ | refine Below.alloc ?_ (by simp; omega) _)⟩
      · rw [if_neg (fun h => h2 h.1)]
        have hcmp : (encL true x y == S) = false := by rw [henc, hS, hk1, beq_eq_false_iff_ne]; intro h; simp at h; exact h2 h
        clear hI hI2 h1 h2 hS henc hk1
        go_enter Try.func20, Try.ntmps20
        go_wp2_with fail
        obtain ⟨w1, hw1⟩ : ∃ w1, (w.alloc (.cells #[.bool false, .int .i64 0, .int .i64 0] 30)).alloc (.cells #[.string (bstr S), .int .i64 0] 56) = w1 := ⟨_, rfl⟩
        have hb1 : Blk w1 w.heap.size 30 #[.bool false, .int .i64 0, .int .i64 0] := by rw [← hw1]; exact (Blk.new _ _ _).alloc _
        have r1 : RrAt w1 (w.heap.size + 1) ⟨S, 0⟩ := by
          rw [← hw1]
          have := Blk.new (w.alloc (.cells #[.bool false, .int .i64 0, .int .i64 0] 30)) 56 #[.string (bstr S), .int .i64 0]
          simpa [RrAt] using this
        have hk1 : Below w.heap.size w w1 := by rw [← hw1]; exact ((Below.refl _ _).alloc (Nat.le_refl _) _).alloc (by simp) _
        have hz1 : w.heap.size < w1.heap.size := hb1.lt
        obtain ⟨g, hg⟩ : ∃ g, w.heap.size + 1 = g := ⟨_, rfl⟩
        have hgw : w.heap.size < g := by omega
        rw [hw1]
        rw [hg] at r1 ⊢
        clear hw1 hg
        refine (rnumber_to N1.out _ _ r1 L1.out).mono ?_
        rintro e w2 ⟨rfl, r2, b2⟩
        go_wp2_with fail
        refine (rnumber_to N2.out _ _ r2 L2.out).mono ?_
        rintro e w3 ⟨rfl, r3, b3⟩
        go_wp2_with fail
        refine (rnumber_to N3.out _ _ r3 L3.out).mono ?_
        rintro e w4 ⟨rfl, r4, b4⟩
        have z2 := b2.size
        have z3 := b3.size
        have k2 := b2.mono (B' := w1.heap.size) (S' := (· = g)) (Nat.le_refl _) (fun _ _ h => h)
        have k3 := b3.mono (B' := w1.heap.size) (S' := (· = g)) z2 (fun _ _ h => h)
        have k4 := b4.mono (B' := w1.heap.size) (S' := (· = g)) (Nat.le_trans z2 z3) (fun _ _ h => h)
        have kk := (k2.trans k3).trans k4
        have hb4 := hb1.keep kk hz1 (by omega)
        have hk4 := hk1.trans (kk.mono (B' := w.heap.size) (S' := fun _ => False) (by omega) (fun j hj e => by omega)).below
        have er := r4.cell 1
        simp at er
        obtain ⟨R, hR⟩ : ∃ R, w.heap.size = R := ⟨_, rfl⟩
        rw [hR] at hb4 hk4 ⊢
        have HR := Lib.hid hR
        clear hk1 hb1 b2 b3 b4 k2 k3 k4 kk hz1 z2 z3 r1 r2 r3 hgw hR
        go_wp2_with fail
        have hz4 : R < w4.heap.size := hb4.lt
        obtain ⟨w5, hw5⟩ : ∃ w5, w4.alloc (.cells #[.bool true, .int .i64 x, .int .i64 y] 30) = w5 := ⟨_, rfl⟩
        obtain ⟨I, hI⟩ : ∃ I, w4.heap.size = I := ⟨_, rfl⟩
        have hb5 : Blk w5 R 30 #[.bool false, .int .i64 0, .int .i64 0] := by rw [← hw5]; exact hb4.alloc _
        have hi5 : Blk w5 I 30 #[.bool true, .int .i64 x, .int .i64 y] := by rw [← hw5, ← hI]; exact Blk.new _ _ _
        have hk5 : Below R w w5 := by rw [← hw5]; exact hk4.alloc (by omega) _
        rw [hw5]
        rw [hI]
        clear hw5 hI hb4 hk4 hz4 er r4
        refine (renc_to EN.out w5).mono ?_
        rintro e w6 ⟨rfl, b6⟩
        have hb6 := hb5.below b6 hb5.lt
        have hi6 := hi5.below b6 hi5.lt
        have hz5 : R < w5.heap.size := hb5.lt
        have hk6 := hk5.trans (b6.mono (by omega))
        have hz6 : R < w6.heap.size := hb6.lt
        clear hb5 hi5 b6 hz5 hk5
        have c0 := hb6.cell 0
        have c1 := hb6.cell 1
        have c2 := hb6.cell 2
        have f0 := hb6.frozen 0
        have f1 := hb6.frozen 1
        have f2 := hb6.frozen 2
        simp at c0 c1 c2
        have i0 := hi6.cell 0
        have i1 := hi6.cell 1
        have i2 := hi6.cell 2
        simp at i0 i1 i2
        clear hb6 hi6
        go_wp2
        exact bodyPost_ret (v := inoV ⟨false, 0, 0, 3⟩) (by simp [results, Try.results20, go_sem, inoV, *]) rfl ⟨rfl, by rw [HR.out]; repeat (first | exact hk6 | refine below_at ?_ (Nat.le_refl _) _ _ | refine Below.alloc ?_ (by simp; omega) _)⟩
    · have hkk : ((k.toNat : Int) == 1) = false := by rw [beq_eq_false_iff_ne]; omega
      have EN : Hid (encV false x y = .tuple #[.string (bstr (encL false x y)), .int .i64 0]) := by show _ = _; unfold encV; rw [hI]; rfl
      by_cases h2 : rest = [] ∧ k.toNat = 0
      · have hk0 : k = 0 := UInt8.toNat_inj.1 (by simpa using h2.2)
        rw [if_pos ⟨h2.1, by omega, by omega, by omega⟩, show decide (k.toNat = 1) = false by simp [h1]]
        have hcmp : (encL false x y == S) = true := by rw [henc, hS, h2.1, hk0]; simp
        clear hI hI2 h1 h2 hS henc hk0
        go_enter Try.func20, Try.ntmps20
        go_wp2_with fail
        obtain ⟨w1, hw1⟩ : ∃ w1, (w.alloc (.cells #[.bool false, .int .i64 0, .int .i64 0] 30)).alloc (.cells #[.string (bstr S), .int .i64 0] 56) = w1 := ⟨_, rfl⟩
        have hb1 : Blk w1 w.heap.size 30 #[.bool false, .int .i64 0, .int .i64 0] := by rw [← hw1]; exact (Blk.new _ _ _).alloc _
        have r1 : RrAt w1 (w.heap.size + 1) ⟨S, 0⟩ := by
          rw [← hw1]
          have := Blk.new (w.alloc (.cells #[.bool false, .int .i64 0, .int .i64 0] 30)) 56 #[.string (bstr S), .int .i64 0]
          simpa [RrAt] using this
        have hk1 : Below w.heap.size w w1 := by rw [← hw1]; exact ((Below.refl _ _).alloc (Nat.le_refl _) _).alloc (by simp) _
        have hz1 : w.heap.size < w1.heap.size := hb1.lt
        obtain ⟨g, hg⟩ : ∃ g, w.heap.size + 1 = g := ⟨_, rfl⟩
        have hgw : w.heap.size < g := by omega
        rw [hw1]
        rw [hg] at r1 ⊢
        clear hw1 hg
        refine (rnumber_to N1.out _ _ r1 L1.out).mono ?_
        rintro e w2 ⟨rfl, r2, b2⟩
        go_wp2_with fail
        refine (rnumber_to N2.out _ _ r2 L2.out).mono ?_
        rintro e w3 ⟨rfl, r3, b3⟩
        go_wp2_with fail
        refine (rnumber_to N3.out _ _ r3 L3.out).mono ?_
        rintro e w4 ⟨rfl, r4, b4⟩
        have z2 := b2.size
        have z3 := b3.size
        have k2 := b2.mono (B' := w1.heap.size) (S' := (· = g)) (Nat.le_refl _) (fun _ _ h => h)
        have k3 := b3.mono (B' := w1.heap.size) (S' := (· = g)) z2 (fun _ _ h => h)
        have k4 := b4.mono (B' := w1.heap.size) (S' := (· = g)) (Nat.le_trans z2 z3) (fun _ _ h => h)
        have kk := (k2.trans k3).trans k4
        have hb4 := hb1.keep kk hz1 (by omega)
        have hk4 := hk1.trans (kk.mono (B' := w.heap.size) (S' := fun _ => False) (by omega) (fun j hj e => by omega)).below
        have er := r4.cell 1
        simp at er
        obtain ⟨R, hR⟩ : ∃ R, w.heap.size = R := ⟨_, rfl⟩
        rw [hR] at hb4 hk4 ⊢
        have HR := Lib.hid hR
        clear hk1 hb1 b2 b3 b4 k2 k3 k4 kk hz1 z2 z3 r1 r2 r3 hgw hR
        go_wp2_with fail
        have hz4 : R < w4.heap.size := hb4.lt
        obtain ⟨w5, hw5⟩ : ∃ w5, w4.alloc (.cells #[.bool false, .int .i64 x, .int .i64 y] 30) = w5 := ⟨_, rfl⟩
        obtain ⟨I, hI⟩ : ∃ I, w4.heap.size = I := ⟨_, rfl⟩
        have hb5 : Blk w5 R 30 #[.bool false, .int .i64 0, .int .i64 0] := by rw [← hw5]; exact hb4.alloc _
        have hi5 : Blk w5 I 30 #[.bool false, .int .i64 x, .int .i64 y] := by rw [← hw5, ← hI]; exact Blk.new _ _ _
        have hk5 : Below R w w5 := by rw [← hw5]; exact hk4.alloc (by omega) _
        rw [hw5]
        rw [hI]
        clear hw5 hI hb4 hk4 hz4 er r4
        refine (renc_to EN.out w5).mono ?_
        rintro e w6 ⟨rfl, b6⟩
        have hb6 := hb5.below b6 hb5.lt
        have hi6 := hi5.below b6 hi5.lt
        have hz5 : R < w5.heap.size := hb5.lt
        have hk6 := hk5.trans (b6.mono (by omega))
        have hz6 : R < w6.heap.size := hb6.lt
        clear hb5 hi5 b6 hz5 hk5
        have c0 := hb6.cell 0
        have c1 := hb6.cell 1
        have c2 := hb6.cell 2
        have f0 := hb6.frozen 0
        have f1 := hb6.frozen 1
        have f2 := hb6.frozen 2
        simp at c0 c1 c2
        have i0 := hi6.cell 0
        have i1 := hi6.cell 1
        have i2 := hi6.cell 2
        simp at i0 i1 i2
        clear hb6 hi6
        go_wp2
        exact bodyPost_ret (v := inoV ⟨false, x, y, 0⟩) (by simp [results, Try.results20, go_sem, inoV, *]) rfl ⟨rfl, by rw [HR.out]; repeat (first | exact hk6 | refine below_at ?_ (Nat.le_refl _) _ _ | refine Below.alloc ?_ (by simp; omega) _)⟩
      · rw [if_neg (fun h => h2 ⟨h.1, by omega⟩)]
        have hcmp : (encL false x y == S) = false := by
          rw [henc, hS, beq_eq_false_iff_ne]
          intro h
          simp at h
          exact h2 ⟨h.2, by rw [← h.1]; rfl⟩
        clear hI hI2 h1 h2 hS henc
        go_enter Try.func20, Try.ntmps20
        go_wp2_with fail
        obtain ⟨w1, hw1⟩ : ∃ w1, (w.alloc (.cells #[.bool false, .int .i64 0, .int .i64 0] 30)).alloc (.cells #[.string (bstr S), .int .i64 0] 56) = w1 := ⟨_, rfl⟩
        have hb1 : Blk w1 w.heap.size 30 #[.bool false, .int .i64 0, .int .i64 0] := by rw [← hw1]; exact (Blk.new _ _ _).alloc _
        have r1 : RrAt w1 (w.heap.size + 1) ⟨S, 0⟩ := by
          rw [← hw1]
          have := Blk.new (w.alloc (.cells #[.bool false, .int .i64 0, .int .i64 0] 30)) 56 #[.string (bstr S), .int .i64 0]
          simpa [RrAt] using this
        have hk1 : Below w.heap.size w w1 := by rw [← hw1]; exact ((Below.refl _ _).alloc (Nat.le_refl _) _).alloc (by simp) _
        have hz1 : w.heap.size < w1.heap.size := hb1.lt
        obtain ⟨g, hg⟩ : ∃ g, w.heap.size + 1 = g := ⟨_, rfl⟩
        have hgw : w.heap.size < g := by omega
        rw [hw1]
        rw [hg] at r1 ⊢
        clear hw1 hg
        refine (rnumber_to N1.out _ _ r1 L1.out).mono ?_
        rintro e w2 ⟨rfl, r2, b2⟩
        go_wp2_with fail
        refine (rnumber_to N2.out _ _ r2 L2.out).mono ?_
        rintro e w3 ⟨rfl, r3, b3⟩
        go_wp2_with fail
        refine (rnumber_to N3.out _ _ r3 L3.out).mono ?_
        rintro e w4 ⟨rfl, r4, b4⟩
        have z2 := b2.size
        have z3 := b3.size
        have k2 := b2.mono (B' := w1.heap.size) (S' := (· = g)) (Nat.le_refl _) (fun _ _ h => h)
        have k3 := b3.mono (B' := w1.heap.size) (S' := (· = g)) z2 (fun _ _ h => h)
        have k4 := b4.mono (B' := w1.heap.size) (S' := (· = g)) (Nat.le_trans z2 z3) (fun _ _ h => h)
        have kk := (k2.trans k3).trans k4
        have hb4 := hb1.keep kk hz1 (by omega)
        have hk4 := hk1.trans (kk.mono (B' := w.heap.size) (S' := fun _ => False) (by omega) (fun j hj e => by omega)).below
        have er := r4.cell 1
        simp at er
        obtain ⟨R, hR⟩ : ∃ R, w.heap.size = R := ⟨_, rfl⟩
        rw [hR] at hb4 hk4 ⊢
        have HR := Lib.hid hR
        clear hk1 hb1 b2 b3 b4 k2 k3 k4 kk hz1 z2 z3 r1 r2 r3 hgw hR
        go_wp2_with fail
        have hz4 : R < w4.heap.size := hb4.lt
        obtain ⟨w5, hw5⟩ : ∃ w5, w4.alloc (.cells #[.bool false, .int .i64 x, .int .i64 y] 30) = w5 := ⟨_, rfl⟩
        obtain ⟨I, hI⟩ : ∃ I, w4.heap.size = I := ⟨_, rfl⟩
        have hb5 : Blk w5 R 30 #[.bool false, .int .i64 0, .int .i64 0] := by rw [← hw5]; exact hb4.alloc _
        have hi5 : Blk w5 I 30 #[.bool false, .int .i64 x, .int .i64 y] := by rw [← hw5, ← hI]; exact Blk.new _ _ _
        have hk5 : Below R w w5 := by rw [← hw5]; exact hk4.alloc (by omega) _
        rw [hw5]
        rw [hI]
        clear hw5 hI hb4 hk4 hz4 er r4
        refine (renc_to EN.out w5).mono ?_
        rintro e w6 ⟨rfl, b6⟩
        have hb6 := hb5.below b6 hb5.lt
        have hi6 := hi5.below b6 hi5.lt
        have hz5 : R < w5.heap.size := hb5.lt
        have hk6 := hk5.trans (b6.mono (by omega))
        have hz6 : R < w6.heap.size := hb6.lt
        clear hb5 hi5 b6 hz5 hk5
        have c0 := hb6.cell 0
        have c1 := hb6.cell 1
        have c2 := hb6.cell 2
        have f0 := hb6.frozen 0
        have f1 := hb6.frozen 1
        have f2 := hb6.frozen 2
        simp at c0 c1 c2
        have i0 := hi6.cell 0
        have i1 := hi6.cell 1
        have i2 := hi6.cell 2
        simp at i0 i1 i2
        clear hb6 hi6
        go_wp2
        exact bodyPost_ret (v := inoV ⟨false, 0, 0, 3⟩) (by simp [results, Try.results20, go_sem, inoV, *]) rfl ⟨rfl, by rw [HR.out]; repeat (first | exact hk6 | refine below_at ?_ (Nat.le_refl _) _ _ | refine Below.alloc ?_ (by simp; omega) _)⟩

theorem rdec_any (s : List UInt8) (hs : s.length ≤ 140737488351232) (w : World) :
    Calls Try.prog 20 #[.string (bstr s)] w fun e w' => e = .returned (inoV (decL s)) ∧ Below w.heap.size w w' := by
  by_cases h : s.length < 9
  · exact rdec_short s h w
  · obtain ⟨k, a0, a1, a2, a3, b0, b1, b2, b3, rest, e⟩ := nine h
    exact rdec_long s k a0 a1 a2 a3 b0 b1 b2 b3 rest e hs w

end Go.Proofs.Ytjbnhofdpklfoaa
