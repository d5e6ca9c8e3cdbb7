/- What Encode computes, of the reference 15: a contract of its call. -/
import Derived.Test.YtjbnhofdpklfoaaEn
namespace Go.Proofs.Ytjbnhofdpklfoaa
open Go.RowKit
set_option linter.unusedSimpArgs false
set_option linter.unnecessarySimpa false
set_option linter.unusedVariables false

theorem rput_to {n wd : Int} {q : List UInt8} (h : putL n wd = q) (w : World) :
    Calls Try.prog 28 #[.int .i64 n, .int .i64 wd] w fun e w' => e = .returned (.string (bstr q)) ∧ Below w.heap.size w w' := by
  subst h; exact rput_any n wd w

set_option maxHeartbeats 1000000 in
theorem renc_yes (d : Bool) (s l : Int) (hs : inB s = true) (hl : inB l = true) (w : World) :
    Calls Try.prog 18 #[.agg #[.bool d, .int .i64 s, .int .i64 l]] w fun e w' => e = .returned (.tuple #[.string (bstr (encL d s l)), .int .i64 0]) ∧ Below w.heap.size w w' := by
  have p1 := putL_four hs
  have p2 := putL_four hl
  have l1 := length_leB s.toNat 4
  have l2 := length_leB l.toNat 4
  unfold encL
  obtain ⟨x0, x1, x2, x3, e1⟩ : ∃ a b c d, leB s.toNat 4 = [a, b, c, d] := ⟨_, _, _, _, rfl⟩
  obtain ⟨y0, y1, y2, y3, e2⟩ : ∃ a b c d, leB l.toNat 4 = [a, b, c, d] := ⟨_, _, _, _, rfl⟩
  rw [e1] at p1 l1 ⊢
  rw [e2] at p2 l2 ⊢
  have hs2 := inB_true.1 hs
  have hl2 := inB_true.1 hl
  have u1 := hs2.1
  have u2 := hs2.2
  have u3 := hl2.1
  have u4 := hl2.2
  clear hs2 hl2
  have P1 := Lib.hid p1
  have P2 := Lib.hid p2
  clear p1 p2 l1 l2 e1 e2 hs hl
  cases d with
  | false =>
    have P0 : Hid (putL 0 1 = [0]) := by show putL 0 1 = [0]; decide
    go_enter Try.func18, Try.ntmps18
    go_wp2_with fail
    obtain ⟨w0, hw0⟩ : ∃ w0, w.alloc (.cells #[.bool false, .int .i64 s, .int .i64 l] 30) = w0 := ⟨_, rfl⟩
    have hb : Blk w0 w.heap.size 30 #[.bool false, .int .i64 s, .int .i64 l] := by rw [← hw0]; exact Blk.new _ _ _
    have hk : Below w.heap.size w w0 := by rw [← hw0]; exact (Below.refl _ _).alloc (Nat.le_refl _) _
    rw [hw0]
    clear hw0
    obtain ⟨g, hg⟩ : ∃ g, w.heap.size = g := ⟨_, rfl⟩
    rw [hg] at hb hk ⊢
    have c01 := hb.cell 1
    have c02 := hb.cell 2
    simp at c01 c02
    go_region_held3 (fun w' => w'.cell? ⟨g, 1, none⟩ = some (.int .i64 s) ∧ w'.cell? ⟨g, 2, none⟩ = some (.int .i64 l))
      (first | exact ⟨c31, c32⟩ | exact ⟨c21, c22⟩ | exact ⟨c11, c12⟩ | exact ⟨c01, c02⟩ | go_keep)
      (first
      | (go_at_call_of 28 (Value.int IntKind.i64 s); refine (rput_to P1.out w1).mono ?_; rintro e w2 ⟨rfl, b2⟩; have hb2 : Blk w2 g 30 #[.bool false, .int .i64 s, .int .i64 l] := hb1.below b2 hb1.lt; have c21 := hb2.cell 1; have c22 := hb2.cell 2; simp at c21 c22)
      | (go_at_call_of 28 (Value.int IntKind.i64 l); refine (rput_to P2.out w2).mono ?_; rintro e w3 ⟨rfl, b3⟩; have hb3 : Blk w3 g 30 #[.bool false, .int .i64 s, .int .i64 l] := hb2.below b3 hb2.lt; have c31 := hb3.cell 1; have c32 := hb3.cell 2; simp at c31 c32)
      | (go_at_call 28; refine (rput_to P0.out w0.drew).mono ?_; rintro e w1 ⟨rfl, b1⟩; have hb1 : Blk w1 g 30 #[.bool false, .int .i64 s, .int .i64 l] := hb.below b1.fromDrew hb.lt; have c11 := hb1.cell 1; have c12 := hb1.cell 2; simp at c11 c12))
    go_wp2
    go_ret2
    have z0 := hk.size
    have z1 := b1.size
    have z2 := b2.size
    have z3 : g ≤ w0.heap.size := by omega
    rw [← hg] at hk ⊢
    exact ⟨rfl, hk.trans ((b1.fromDrew.mono z0).trans ((b2.mono (Nat.le_trans z0 z1)).trans (b3.mono (Nat.le_trans z0 (Nat.le_trans z1 z2)))))⟩
  | true =>
    have P0 : Hid (putL 1 1 = [1]) := by show putL 1 1 = [1]; decide
    go_enter Try.func18, Try.ntmps18
    go_wp2_with fail
    obtain ⟨w0, hw0⟩ : ∃ w0, w.alloc (.cells #[.bool true, .int .i64 s, .int .i64 l] 30) = w0 := ⟨_, rfl⟩
    have hb : Blk w0 w.heap.size 30 #[.bool true, .int .i64 s, .int .i64 l] := by rw [← hw0]; exact Blk.new _ _ _
    have hk : Below w.heap.size w w0 := by rw [← hw0]; exact (Below.refl _ _).alloc (Nat.le_refl _) _
    rw [hw0]
    clear hw0
    obtain ⟨g, hg⟩ : ∃ g, w.heap.size = g := ⟨_, rfl⟩
    rw [hg] at hb hk ⊢
    have c01 := hb.cell 1
    have c02 := hb.cell 2
    simp at c01 c02
    go_region_held3 (fun w' => w'.cell? ⟨g, 1, none⟩ = some (.int .i64 s) ∧ w'.cell? ⟨g, 2, none⟩ = some (.int .i64 l))
      (first | exact ⟨c31, c32⟩ | exact ⟨c21, c22⟩ | exact ⟨c11, c12⟩ | exact ⟨c01, c02⟩ | go_keep)
      (first
      | (go_at_call_of 28 (Value.int IntKind.i64 s); refine (rput_to P1.out w1).mono ?_; rintro e w2 ⟨rfl, b2⟩; have hb2 : Blk w2 g 30 #[.bool true, .int .i64 s, .int .i64 l] := hb1.below b2 hb1.lt; have c21 := hb2.cell 1; have c22 := hb2.cell 2; simp at c21 c22)
      | (go_at_call_of 28 (Value.int IntKind.i64 l); refine (rput_to P2.out w2).mono ?_; rintro e w3 ⟨rfl, b3⟩; have hb3 : Blk w3 g 30 #[.bool true, .int .i64 s, .int .i64 l] := hb2.below b3 hb2.lt; have c31 := hb3.cell 1; have c32 := hb3.cell 2; simp at c31 c32)
      | (go_at_call 28; refine (rput_to P0.out w0.drew).mono ?_; rintro e w1 ⟨rfl, b1⟩; have hb1 : Blk w1 g 30 #[.bool true, .int .i64 s, .int .i64 l] := hb.below b1.fromDrew hb.lt; have c11 := hb1.cell 1; have c12 := hb1.cell 2; simp at c11 c12))
    go_wp2
    go_ret2
    have z0 := hk.size
    have z1 := b1.size
    have z2 := b2.size
    have z3 : g ≤ w0.heap.size := by omega
    rw [← hg] at hk ⊢
    exact ⟨rfl, hk.trans ((b1.fromDrew.mono z0).trans ((b2.mono (Nat.le_trans z0 z1)).trans (b3.mono (Nat.le_trans z0 (Nat.le_trans z1 z2)))))⟩


set_option maxHeartbeats 400000 in
theorem renc_no (d : Bool) (s l : Int) (h : (inB s && inB l) = false) (w : World) :
    Calls Try.prog 18 #[.agg #[.bool d, .int .i64 s, .int .i64 l]] w fun e w' => e = .returned (.tuple #[.string (bstr []), .int .i64 1]) ∧ Below w.heap.size w w' := by
  by_cases h1 : s < 0
  · clear h
    go_enter Try.func18, Try.ntmps18
    go_wp2
    go_ret2
    exact ⟨rfl, (Below.refl _ _).alloc (Nat.le_refl _) _⟩
  · by_cases h2 : 2147483648 < s
    · clear h
      go_enter Try.func18, Try.ntmps18
      go_wp2
      go_ret2
      exact ⟨rfl, (Below.refl _ _).alloc (Nat.le_refl _) _⟩
    · by_cases h3 : l < 0
      · clear h
        go_enter Try.func18, Try.ntmps18
        go_wp2
        go_ret2
        exact ⟨rfl, (Below.refl _ _).alloc (Nat.le_refl _) _⟩
      · have h4 : 2147483648 < l := by
          have a : inB s = true := inB_true.2 ⟨by omega, by omega⟩
          rw [a] at h
          rcases Int.lt_or_le 2147483648 l with h5 | h5
          · exact h5
          · have b : inB l = true := inB_true.2 ⟨by omega, by omega⟩
            rw [b] at h; cases h
        clear h
        go_enter Try.func18, Try.ntmps18
        go_wp2
        go_ret2
        exact ⟨rfl, (Below.refl _ _).alloc (Nat.le_refl _) _⟩

theorem renc_any (d : Bool) (s l : Int) (w : World) :
    Calls Try.prog 18 #[.agg #[.bool d, .int .i64 s, .int .i64 l]] w fun e w' => e = .returned (encV d s l) ∧ Below w.heap.size w w' := by
  unfold encV
  cases h : inB s && inB l with
  | true =>
    simp only [Bool.and_eq_true] at h
    exact renc_yes d s l h.1 h.2 w
  | false => exact renc_no d s l h w

end Go.Proofs.Ytjbnhofdpklfoaa
