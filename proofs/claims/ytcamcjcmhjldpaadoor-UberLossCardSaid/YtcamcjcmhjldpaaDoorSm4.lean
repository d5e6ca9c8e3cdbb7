/- Package sum: Sum, Of, Len: their contracts. -/
import Derived.Test.YtcamcjcmhjldpaaDoorSm3
namespace Go.Proofs.YtcamcjcmhjldpaaDoor
open Go.RowKit
set_option maxRecDepth 100000
set_option linter.unusedSimpArgs false
set_option linter.unnecessarySimpa false
set_option linter.unusedVariables false

/-- the first k bytes of a length of n bytes in bits, the greatest first -/
def lenB (n : Nat) : Nat → List UInt8
  | 0 => []
  | k + 1 => lenB n k ++ [UInt8.ofNat (8 * n / 2 ^ (56 - 8 * k) % 256)]
def Sw.tail (d : Sw) : List UInt8 := 128 :: (List.replicate ((119 - d.rest.length) % 64) 0 ++ lenB d.n 8)
def wordB (x : BitVec 32) : List UInt8 := [UInt8.ofNat (x.toNat / 16777216 % 256), UInt8.ofNat (x.toNat / 65536 % 256), UInt8.ofNat (x.toNat / 256 % 256), UInt8.ofNat (x.toNat % 256)]
def H8.bytes (h : H8) : List UInt8 := h.l.flatMap wordB
def Sw.digest (d : Sw) : List UInt8 := (d.write d.tail).h.bytes
def shaL (s : List UInt8) : List UInt8 := (Sw.new.write s).digest

theorem zeros_rep (n : Nat) : (⟨(Lib.repeatL (ByteArray.mk #[0]).data.toList n).toArray⟩ : ByteArray) = bstr (List.replicate n 0) := by
  have : ∀ n : Nat, Lib.repeatL [(0 : UInt8)] n = List.replicate n 0 := by
    intro n
    induction n with
    | zero => rfl
    | succ n ih => rw [Lib.repeatL, ih, List.replicate_succ]; rfl
  unfold bstr
  rw [show (ByteArray.mk #[0]).data.toList = [0] from rfl, this]

theorem sw_one (d : Sw) : d.cells.all (·.oneCell') = true := by simp [Sw.cells, Value.oneCell']
theorem sw_zero : Sw.cells ⟨⟨0, 0, 0, 0, 0, 0, 0, 0⟩, [], 0⟩ = #[.int .u32 0, .int .u32 0, .int .u32 0, .int .u32 0, .int .u32 0, .int .u32 0, .int .u32 0, .int .u32 0, .string ⟨#[]⟩, .int .i64 0] := rfl
theorem idx8_0 (x : H8) (w : World) : (Instr.index 102 (.agg #[.int .u32 (u x.a), .int .u32 (u x.b), .int .u32 (u x.c), .int .u32 (u x.d), .int .u32 (u x.e), .int .u32 (u x.f), .int .u32 (u x.g), .int .u32 (u x.h)]) (.int .i64 0)).run Tryd.prog w = .ok (.int .u32 (u x.a)) w := by
  simp [Instr.index, run_underlying Tryd.underlying102, asIntOf, go_sem, part, Tryd.isAgg100, Tryd.sizeOf100]
theorem idx8_1 (x : H8) (w : World) : (Instr.index 102 (.agg #[.int .u32 (u x.a), .int .u32 (u x.b), .int .u32 (u x.c), .int .u32 (u x.d), .int .u32 (u x.e), .int .u32 (u x.f), .int .u32 (u x.g), .int .u32 (u x.h)]) (.int .i64 1)).run Tryd.prog w = .ok (.int .u32 (u x.b)) w := by
  simp [Instr.index, run_underlying Tryd.underlying102, asIntOf, go_sem, part, Tryd.isAgg100, Tryd.sizeOf100]
theorem idx8_2 (x : H8) (w : World) : (Instr.index 102 (.agg #[.int .u32 (u x.a), .int .u32 (u x.b), .int .u32 (u x.c), .int .u32 (u x.d), .int .u32 (u x.e), .int .u32 (u x.f), .int .u32 (u x.g), .int .u32 (u x.h)]) (.int .i64 2)).run Tryd.prog w = .ok (.int .u32 (u x.c)) w := by
  simp [Instr.index, run_underlying Tryd.underlying102, asIntOf, go_sem, part, Tryd.isAgg100, Tryd.sizeOf100]
theorem idx8_3 (x : H8) (w : World) : (Instr.index 102 (.agg #[.int .u32 (u x.a), .int .u32 (u x.b), .int .u32 (u x.c), .int .u32 (u x.d), .int .u32 (u x.e), .int .u32 (u x.f), .int .u32 (u x.g), .int .u32 (u x.h)]) (.int .i64 3)).run Tryd.prog w = .ok (.int .u32 (u x.d)) w := by
  simp [Instr.index, run_underlying Tryd.underlying102, asIntOf, go_sem, part, Tryd.isAgg100, Tryd.sizeOf100]
theorem idx8_4 (x : H8) (w : World) : (Instr.index 102 (.agg #[.int .u32 (u x.a), .int .u32 (u x.b), .int .u32 (u x.c), .int .u32 (u x.d), .int .u32 (u x.e), .int .u32 (u x.f), .int .u32 (u x.g), .int .u32 (u x.h)]) (.int .i64 4)).run Tryd.prog w = .ok (.int .u32 (u x.e)) w := by
  simp [Instr.index, run_underlying Tryd.underlying102, asIntOf, go_sem, part, Tryd.isAgg100, Tryd.sizeOf100]
theorem idx8_5 (x : H8) (w : World) : (Instr.index 102 (.agg #[.int .u32 (u x.a), .int .u32 (u x.b), .int .u32 (u x.c), .int .u32 (u x.d), .int .u32 (u x.e), .int .u32 (u x.f), .int .u32 (u x.g), .int .u32 (u x.h)]) (.int .i64 5)).run Tryd.prog w = .ok (.int .u32 (u x.f)) w := by
  simp [Instr.index, run_underlying Tryd.underlying102, asIntOf, go_sem, part, Tryd.isAgg100, Tryd.sizeOf100]
theorem idx8_6 (x : H8) (w : World) : (Instr.index 102 (.agg #[.int .u32 (u x.a), .int .u32 (u x.b), .int .u32 (u x.c), .int .u32 (u x.d), .int .u32 (u x.e), .int .u32 (u x.f), .int .u32 (u x.g), .int .u32 (u x.h)]) (.int .i64 6)).run Tryd.prog w = .ok (.int .u32 (u x.g)) w := by
  simp [Instr.index, run_underlying Tryd.underlying102, asIntOf, go_sem, part, Tryd.isAgg100, Tryd.sizeOf100]
theorem idx8_7 (x : H8) (w : World) : (Instr.index 102 (.agg #[.int .u32 (u x.a), .int .u32 (u x.b), .int .u32 (u x.c), .int .u32 (u x.d), .int .u32 (u x.e), .int .u32 (u x.f), .int .u32 (u x.g), .int .u32 (u x.h)]) (.int .i64 7)).run Tryd.prog w = .ok (.int .u32 (u x.h)) w := by
  simp [Instr.index, run_underlying Tryd.underlying102, asIntOf, go_sem, part, Tryd.isAgg100, Tryd.sizeOf100]
theorem word_cells (x : BitVec 32) : #[.int .u8 (u x / 16777216), .int .u8 (u x / 65536 % 256), .int .u8 (u x / 256 % 256), .int .u8 (u x % 256)] = bcells (wordB x) := by
  have := x.isLt
  unfold u
  simp [bcells, wordB]
  omega
theorem flat_len : ∀ l : List (BitVec 32), (l.flatMap wordB).length = 4 * l.length
  | [] => rfl
  | x :: l => by rw [List.flatMap_cons, List.length_append, flat_len l, List.length_cons]; simp [wordB]; omega
theorem run_byte_one_new {P : Program} (w : World) {src e dst : TypeId} (hs : P.underlying src = some (.slice e)) (he : P.underlying e = some (.int .u8)) (hd : P.underlying dst = some .string) (v : Int) (x : UInt8) (hx : (x.toNat : Int) = v) :
    (convert src dst (.slice (some ⟨w.heap.size, 0, none⟩) 1 1)).run P (w.alloc (.cells #[.int .u8 v] e)) = .ok (.string (bstr [x])) (w.alloc (.cells #[.int .u8 v] e)) := by
  subst hx
  have hb := Blk.new w e (bcells ([x] ++ []))
  exact run_convert_bcells hb hs he hd 1 1 rfl
theorem lenB_len (n : Nat) : ∀ k, (lenB n k).length = k
  | 0 => rfl
  | k + 1 => by rw [lenB, List.length_append, lenB_len n k]; rfl
theorem str80 (l : List UInt8) : (ByteArray.mk #[128]) ++ bstr l = bstr (128 :: l) := bstr_append [128] l
set_option maxRecDepth 100000 in
set_option maxHeartbeats 2000000 in
theorem sum_sum (g : Nat) (d : Sw) (w : World) (hR : RootsAt w) (hg : Blk w g 105 d.cells) (hg0 : g ≠ 0) (hN : d.n < 288230376151711744) (hr : d.rest.length < 64) :
    Calls Tryd.prog 54 #[.pointer (some ⟨g, 0, none⟩)] w fun e w' => e = .returned (.string (bstr d.digest)) ∧ Below w.heap.size w w' := by
  obtain ⟨h, r, n⟩ := d
  have k8 := hg.cell 8
  simp [Sw.cells] at k8
  simp at hr hN
  have hm : (119 - (r.length : Int)) % 64 = (((119 - r.length) % 64 : Nat) : Int) := by omega
  have hm0 : IntKind.i64.wrap (119 - (r.length : Int)) = 119 - (r.length : Int) := IntWalk.i64_in _ ⟨by omega, by omega⟩
  obtain ⟨m, hme⟩ : ∃ m, (119 - r.length) % 64 = m := ⟨_, rfl⟩
  have hmod : (119 - (r.length : Int)).tmod 64 = m := by rw [Int.tmod_eq_emod_of_nonneg (by omega), hm, hme]
  have hml : m < 64 := by omega
  have HM := Lib.hid hme
  clear hme hm
  go_enter Tryd.func54, Tryd.ntmps54
  go_wp2_with fail
  refine (Tryd.strings_Repeat ⟨#[0]⟩ m w (by omega) (by show 1 * m ≤ _; omega)).mono ?_
  rintro e w1 ⟨rfl, hb1⟩
  rw [zeros_rep]
  have h80 := str80 (List.replicate m 0)
  have hms : ¬ 9223372036854775807 < 1 + m := by omega
  go_wp2_with fail
  go_loopw [3, 4] (fun t i wr => ∃ k : Nat, ∃ z : Int, k ≤ 8 ∧ z = 56 - 8 * k ∧ i = .int .i64 z ∧ t = .string (bstr (128 :: (List.replicate m 0 ++ lenB n k))) ∧ Below w.heap.size w wr) (fun _ i _ => (intOf i + 8).toNat)
  case atStart => exact ⟨0, 56, by omega, by omega, rfl, by simp [lenB], hb1⟩
  case round =>
    obtain ⟨k, z, hk, hz, rfl, rfl, hb⟩ := hrel
    have hgr := hg.below hb hg.lt
    have k9 := hgr.cell 9
    simp [Sw.cells] at k9
    have hN1 : (0 : Int) ≤ n := by omega
    have w8 : IntKind.i64.wrap (8 * (n : Int)) = 8 * (n : Int) := IntWalk.i64_in _ ⟨by omega, by omega⟩
    obtain ⟨t, ht⟩ : ∃ t, 128 :: (List.replicate m 0 ++ lenB n k) = t := ⟨_, rfl⟩
    have htl : t.length ≤ 80 := by rw [← ht]; simp [lenB_len]; omega
    have hcat : ¬ 9223372036854775807 < t.length + 1 := by omega
    rw [ht]
    have HT := Lib.hid ht
    clear ht h80 hms hm0 hmod
    have : k = 0 ∨ k = 1 ∨ k = 2 ∨ k = 3 ∨ k = 4 ∨ k = 5 ∨ k = 6 ∨ k = 7 ∨ k = 8 := by omega
    rcases this with rfl | rfl | rfl | rfl | rfl | rfl | rfl | rfl | rfl
    · obtain rfl : z = 56 := by omega
      clear hz
      have hcv := run_byte_one_new (P := Tryd.prog) wr Tryd.underlying62 Tryd.underlying5 Tryd.underlying9 (8 * (n : Int) / 72057594037927936) (UInt8.ofNat (8 * n / 72057594037927936 % 256)) (by simp <;> omega)
      have hto : t ++ [UInt8.ofNat (8 * n / 72057594037927936 % 256)] = 128 :: (List.replicate m 0 ++ lenB n 1) := by rw [← HT.out]; simp [lenB]
      have HTO := Lib.hid hto
      clear hto
      go_wp2
      go_round
      case rel => exact ⟨1, 48, by omega, by omega, rfl, by rw [← HTO.out], hb.alloc hb.size _⟩
      case measure => simp [intOf]
    · obtain rfl : z = 48 := by omega
      clear hz
      have hcv := run_byte_one_new (P := Tryd.prog) wr Tryd.underlying62 Tryd.underlying5 Tryd.underlying9 (8 * (n : Int) / 281474976710656 % 256) (UInt8.ofNat (8 * n / 281474976710656 % 256)) (by simp <;> omega)
      have hto : t ++ [UInt8.ofNat (8 * n / 281474976710656 % 256)] = 128 :: (List.replicate m 0 ++ lenB n 2) := by rw [← HT.out]; simp [lenB]
      have HTO := Lib.hid hto
      clear hto
      go_wp2
      go_round
      case rel => exact ⟨2, 40, by omega, by omega, rfl, by rw [← HTO.out], hb.alloc hb.size _⟩
      case measure => simp [intOf]
    · obtain rfl : z = 40 := by omega
      clear hz
      have hcv := run_byte_one_new (P := Tryd.prog) wr Tryd.underlying62 Tryd.underlying5 Tryd.underlying9 (8 * (n : Int) / 1099511627776 % 256) (UInt8.ofNat (8 * n / 1099511627776 % 256)) (by simp <;> omega)
      have hto : t ++ [UInt8.ofNat (8 * n / 1099511627776 % 256)] = 128 :: (List.replicate m 0 ++ lenB n 3) := by rw [← HT.out]; simp [lenB]
      have HTO := Lib.hid hto
      clear hto
      go_wp2
      go_round
      case rel => exact ⟨3, 32, by omega, by omega, rfl, by rw [← HTO.out], hb.alloc hb.size _⟩
      case measure => simp [intOf]
    · obtain rfl : z = 32 := by omega
      clear hz
      have hcv := run_byte_one_new (P := Tryd.prog) wr Tryd.underlying62 Tryd.underlying5 Tryd.underlying9 (8 * (n : Int) / 4294967296 % 256) (UInt8.ofNat (8 * n / 4294967296 % 256)) (by simp <;> omega)
      have hto : t ++ [UInt8.ofNat (8 * n / 4294967296 % 256)] = 128 :: (List.replicate m 0 ++ lenB n 4) := by rw [← HT.out]; simp [lenB]
      have HTO := Lib.hid hto
      clear hto
      go_wp2
      go_round
      case rel => exact ⟨4, 24, by omega, by omega, rfl, by rw [← HTO.out], hb.alloc hb.size _⟩
      case measure => simp [intOf]
    · obtain rfl : z = 24 := by omega
      clear hz
      have hcv := run_byte_one_new (P := Tryd.prog) wr Tryd.underlying62 Tryd.underlying5 Tryd.underlying9 (8 * (n : Int) / 16777216 % 256) (UInt8.ofNat (8 * n / 16777216 % 256)) (by simp <;> omega)
      have hto : t ++ [UInt8.ofNat (8 * n / 16777216 % 256)] = 128 :: (List.replicate m 0 ++ lenB n 5) := by rw [← HT.out]; simp [lenB]
      have HTO := Lib.hid hto
      clear hto
      go_wp2
      go_round
      case rel => exact ⟨5, 16, by omega, by omega, rfl, by rw [← HTO.out], hb.alloc hb.size _⟩
      case measure => simp [intOf]
    · obtain rfl : z = 16 := by omega
      clear hz
      have hcv := run_byte_one_new (P := Tryd.prog) wr Tryd.underlying62 Tryd.underlying5 Tryd.underlying9 (8 * (n : Int) / 65536 % 256) (UInt8.ofNat (8 * n / 65536 % 256)) (by simp <;> omega)
      have hto : t ++ [UInt8.ofNat (8 * n / 65536 % 256)] = 128 :: (List.replicate m 0 ++ lenB n 6) := by rw [← HT.out]; simp [lenB]
      have HTO := Lib.hid hto
      clear hto
      go_wp2
      go_round
      case rel => exact ⟨6, 8, by omega, by omega, rfl, by rw [← HTO.out], hb.alloc hb.size _⟩
      case measure => simp [intOf]
    · obtain rfl : z = 8 := by omega
      clear hz
      have hcv := run_byte_one_new (P := Tryd.prog) wr Tryd.underlying62 Tryd.underlying5 Tryd.underlying9 (8 * (n : Int) / 256 % 256) (UInt8.ofNat (8 * n / 256 % 256)) (by simp <;> omega)
      have hto : t ++ [UInt8.ofNat (8 * n / 256 % 256)] = 128 :: (List.replicate m 0 ++ lenB n 7) := by rw [← HT.out]; simp [lenB]
      have HTO := Lib.hid hto
      clear hto
      go_wp2
      go_round
      case rel => exact ⟨7, 0, by omega, by omega, rfl, by rw [← HTO.out], hb.alloc hb.size _⟩
      case measure => simp [intOf]
    · obtain rfl : z = 0 := by omega
      clear hz
      have hcv := run_byte_one_new (P := Tryd.prog) wr Tryd.underlying62 Tryd.underlying5 Tryd.underlying9 (8 * (n : Int) % 256) (UInt8.ofNat (8 * n % 256)) (by simp <;> omega)
      have hto : t ++ [UInt8.ofNat (8 * n % 256)] = 128 :: (List.replicate m 0 ++ lenB n 8) := by rw [← HT.out]; simp [lenB]
      have HTO := Lib.hid hto
      clear hto
      go_wp2
      go_round
      case rel => exact ⟨8, -8, by omega, by omega, rfl, by rw [← HTO.out], hb.alloc hb.size _⟩
      case measure => simp [intOf]
    · obtain rfl : z = -8 := by omega
      clear hz
      have htl8 : t = Sw.tail ⟨h, r, n⟩ := by rw [← HT.out, Sw.tail, HM.out]
      obtain ⟨V, hV⟩ : ∃ V, wr.heap.size = V := ⟨_, rfl⟩
      have hVw : w.heap.size ≤ V := by rw [← hV]; exact hb.size
      obtain ⟨w3, hw3⟩ : ∃ y, (wr.alloc (.cells (Sw.cells ⟨⟨0, 0, 0, 0, 0, 0, 0, 0⟩, [], 0⟩) 105)).setRow V (Sw.cells ⟨h, r, n⟩) = y := ⟨_, rfl⟩
      have hb3 : Below w.heap.size w w3 := by rw [← hw3]; exact below_setRow (hb.alloc hb.size _) hVw _
      have hg3 : Blk w3 V 105 (Sw.cells ⟨h, r, n⟩) := by rw [← hw3]; exact setRow_heap _ _ _ _ _ _ (blk_at hV)
      have HW3 := Lib.hid hw3
      have HT8 := Lib.hid htl8
      have hold : Blk (wr.alloc (.cells (Sw.cells ⟨⟨0, 0, 0, 0, 0, 0, 0, 0⟩, [], 0⟩) 105)) V 105 (Sw.cells ⟨⟨0, 0, 0, 0, 0, 0, 0, 0⟩, [], 0⟩) := blk_at hV
      clear hw3 htl8 k8 k9 hcat
      go_upto_region 9 with (first | (refine wpList_load_row rfl 105 _ rfl g rfl 105 (Sw.cells ⟨h, r, n⟩) (0, 0) _ hgr Tryd.underlying105 rfl rfl ?_) | (refine wpList_store_row rfl 105 _ _ rfl V (Sw.cells ⟨h, r, n⟩) rfl rfl 105 _ hold rfl rfl (sw_one _) ?_))
      have hw3' := HW3.out
      rw [sw_zero] at hw3'
      rw [hw3']
      clear hw3' hold
      have hR3 : RootsAt w3 := hR.below hb3 hR.1
      have hV0 : V ≠ 0 := by have := hR.1; omega
      go_wp2_with fail
      refine (write_sum V ⟨h, r, n⟩ t w3 hR3 hg3 hV0 (by simp; omega) (by simp; omega)).mono ?_
      rintro e w4 ⟨rfl, hg4, hk4⟩
      have hb4 : Below w.heap.size w w4 := hb3.trans (hk4.mono (S' := fun _ => False) hb3.size (fun k h1 h2 => by omega)).below
      have hdg : (Sw.digest ⟨h, r, n⟩) = ((Sw.write ⟨h, r, n⟩ t).h).bytes := by rw [HT8.out]; rfl
      obtain ⟨⟨y, r', n'⟩, hd⟩ : ∃ d, Sw.write ⟨h, r, n⟩ t = d := ⟨_, rfl⟩
      rw [hd] at hg4 hdg
      have HDG := Lib.hid hdg
      clear hd hdg hR3 hV0 hg3 hb3 HT8 HW3 HT htl
      obtain ⟨B, hB⟩ : ∃ B, w4.heap.size = B := ⟨_, rfl⟩
      have hbl : BlAt B (w4.alloc (.cells #[.pointer none, .slice none 0 0] 109)) B [] := by rw [← hB]; exact BlAt.new w4
      have hb5 : Below w.heap.size w (w4.alloc (.cells #[.pointer none, .slice none 0 0] 109)) := hb4.alloc hb4.size _
      have hBs : B < (w4.alloc (.cells #[.pointer none, .slice none 0 0] 109)).heap.size := by simp; omega
      have hwB : w.heap.size ≤ B := by rw [← hB]; exact hb4.size
      have hg5 := hg4.alloc (.cells #[.pointer none, .slice none 0 0] 109)
      have c0 := hg5.cell 0
      have c1 := hg5.cell 1
      have c2 := hg5.cell 2
      have c3 := hg5.cell 3
      have c4 := hg5.cell 4
      have c5 := hg5.cell 5
      have c6 := hg5.cell 6
      have c7 := hg5.cell 7
      simp [Sw.cells] at c0 c1 c2 c3 c4 c5 c6 c7
      clear hg5
      go_wp2_with fail
      obtain ⟨w6, hw6⟩ : ∃ z, w4.alloc (.cells #[.pointer none, .slice none 0 0] 109) = z := ⟨_, rfl⟩
      rw [hw6] at hbl hb5 hBs c0 c1 c2 c3 c4 c5 c6 c7 ⊢
      clear hw6 c0 c1 c2 c3 c4 c5 c6 c7 hg4 hk4 hb4 hgr hb hB
      go_loopw [44] (fun i wv => ∃ j : Nat, j ≤ 8 ∧ i = .int .i64 j ∧ BlAt B wv B ((y.l.take j).flatMap wordB) ∧ Below w.heap.size w wv ∧ B < wv.heap.size) (fun i _ => 8 - (intOf i).toNat)
      case atStart => exact ⟨0, by omega, rfl, hbl, hb5, hBs⟩
      case round =>
        clear hbl hb5 hBs
        obtain ⟨j, hj, rfl, hbl, hbv, hBv⟩ := hrel
        have : j = 0 ∨ j = 1 ∨ j = 2 ∨ j = 3 ∨ j = 4 ∨ j = 5 ∨ j = 6 ∨ j = 7 ∨ j = 8 := by omega
        rcases this with rfl | rfl | rfl | rfl | rfl | rfl | rfl | rfl | rfl
        · have hix := idx8_0 y wr
          have z0 := u_lo y.a
          have z1 := u_hi y.a
          have hwc := Lib.hid (word_cells y.a)
          go_wp2_with fail
          rw [hwc.out]
          refine (bwrite_any B B wr.heap.size 4 _ (wordB y.a) (Nat.zero_lt_succ 3) _ (hbl.below ((Below.refl _ _).alloc (Nat.le_refl _) _)) (Blk.new wr _ _) (by omega) (by rw [flat_len]; simp [H8.l, wordB]) (by simp; omega)).mono ?_
          rintro e w7 ⟨rfl, hbl7, hb7⟩
          have hb8 : Below w.heap.size w w7 := (hbv.alloc hbv.size _).trans ((Keep.of_below (S := fun _ => False) hb7).mono (S' := fun _ => False) hwB (fun _ _ h => h)).below
          have hl8 := hbl7.lt.2
          clear hix z0 z1 hwc
          go_wp2
          go_round
          case rel => exact ⟨1, by omega, by go_num, hbl7, hb8, hl8⟩
          case measure => simp [intOf]
        · have hix := idx8_1 y wr
          have z0 := u_lo y.b
          have z1 := u_hi y.b
          have hwc := Lib.hid (word_cells y.b)
          go_wp2_with fail
          rw [hwc.out]
          refine (bwrite_any B B wr.heap.size 4 _ (wordB y.b) (Nat.zero_lt_succ 3) _ (hbl.below ((Below.refl _ _).alloc (Nat.le_refl _) _)) (Blk.new wr _ _) (by omega) (by rw [flat_len]; simp [H8.l, wordB]) (by simp; omega)).mono ?_
          rintro e w7 ⟨rfl, hbl7, hb7⟩
          have hb8 : Below w.heap.size w w7 := (hbv.alloc hbv.size _).trans ((Keep.of_below (S := fun _ => False) hb7).mono (S' := fun _ => False) hwB (fun _ _ h => h)).below
          have hl8 := hbl7.lt.2
          clear hix z0 z1 hwc
          go_wp2
          go_round
          case rel => exact ⟨2, by omega, by go_num, hbl7, hb8, hl8⟩
          case measure => simp [intOf]
        · have hix := idx8_2 y wr
          have z0 := u_lo y.c
          have z1 := u_hi y.c
          have hwc := Lib.hid (word_cells y.c)
          go_wp2_with fail
          rw [hwc.out]
          refine (bwrite_any B B wr.heap.size 4 _ (wordB y.c) (Nat.zero_lt_succ 3) _ (hbl.below ((Below.refl _ _).alloc (Nat.le_refl _) _)) (Blk.new wr _ _) (by omega) (by rw [flat_len]; simp [H8.l, wordB]) (by simp; omega)).mono ?_
          rintro e w7 ⟨rfl, hbl7, hb7⟩
          have hb8 : Below w.heap.size w w7 := (hbv.alloc hbv.size _).trans ((Keep.of_below (S := fun _ => False) hb7).mono (S' := fun _ => False) hwB (fun _ _ h => h)).below
          have hl8 := hbl7.lt.2
          clear hix z0 z1 hwc
          go_wp2
          go_round
          case rel => exact ⟨3, by omega, by go_num, hbl7, hb8, hl8⟩
          case measure => simp [intOf]
        · have hix := idx8_3 y wr
          have z0 := u_lo y.d
          have z1 := u_hi y.d
          have hwc := Lib.hid (word_cells y.d)
          go_wp2_with fail
          rw [hwc.out]
          refine (bwrite_any B B wr.heap.size 4 _ (wordB y.d) (Nat.zero_lt_succ 3) _ (hbl.below ((Below.refl _ _).alloc (Nat.le_refl _) _)) (Blk.new wr _ _) (by omega) (by rw [flat_len]; simp [H8.l, wordB]) (by simp; omega)).mono ?_
          rintro e w7 ⟨rfl, hbl7, hb7⟩
          have hb8 : Below w.heap.size w w7 := (hbv.alloc hbv.size _).trans ((Keep.of_below (S := fun _ => False) hb7).mono (S' := fun _ => False) hwB (fun _ _ h => h)).below
          have hl8 := hbl7.lt.2
          clear hix z0 z1 hwc
          go_wp2
          go_round
          case rel => exact ⟨4, by omega, by go_num, hbl7, hb8, hl8⟩
          case measure => simp [intOf]
        · have hix := idx8_4 y wr
          have z0 := u_lo y.e
          have z1 := u_hi y.e
          have hwc := Lib.hid (word_cells y.e)
          go_wp2_with fail
          rw [hwc.out]
          refine (bwrite_any B B wr.heap.size 4 _ (wordB y.e) (Nat.zero_lt_succ 3) _ (hbl.below ((Below.refl _ _).alloc (Nat.le_refl _) _)) (Blk.new wr _ _) (by omega) (by rw [flat_len]; simp [H8.l, wordB]) (by simp; omega)).mono ?_
          rintro e w7 ⟨rfl, hbl7, hb7⟩
          have hb8 : Below w.heap.size w w7 := (hbv.alloc hbv.size _).trans ((Keep.of_below (S := fun _ => False) hb7).mono (S' := fun _ => False) hwB (fun _ _ h => h)).below
          have hl8 := hbl7.lt.2
          clear hix z0 z1 hwc
          go_wp2
          go_round
          case rel => exact ⟨5, by omega, by go_num, hbl7, hb8, hl8⟩
          case measure => simp [intOf]
        · have hix := idx8_5 y wr
          have z0 := u_lo y.f
          have z1 := u_hi y.f
          have hwc := Lib.hid (word_cells y.f)
          go_wp2_with fail
          rw [hwc.out]
          refine (bwrite_any B B wr.heap.size 4 _ (wordB y.f) (Nat.zero_lt_succ 3) _ (hbl.below ((Below.refl _ _).alloc (Nat.le_refl _) _)) (Blk.new wr _ _) (by omega) (by rw [flat_len]; simp [H8.l, wordB]) (by simp; omega)).mono ?_
          rintro e w7 ⟨rfl, hbl7, hb7⟩
          have hb8 : Below w.heap.size w w7 := (hbv.alloc hbv.size _).trans ((Keep.of_below (S := fun _ => False) hb7).mono (S' := fun _ => False) hwB (fun _ _ h => h)).below
          have hl8 := hbl7.lt.2
          clear hix z0 z1 hwc
          go_wp2
          go_round
          case rel => exact ⟨6, by omega, by go_num, hbl7, hb8, hl8⟩
          case measure => simp [intOf]
        · have hix := idx8_6 y wr
          have z0 := u_lo y.g
          have z1 := u_hi y.g
          have hwc := Lib.hid (word_cells y.g)
          go_wp2_with fail
          rw [hwc.out]
          refine (bwrite_any B B wr.heap.size 4 _ (wordB y.g) (Nat.zero_lt_succ 3) _ (hbl.below ((Below.refl _ _).alloc (Nat.le_refl _) _)) (Blk.new wr _ _) (by omega) (by rw [flat_len]; simp [H8.l, wordB]) (by simp; omega)).mono ?_
          rintro e w7 ⟨rfl, hbl7, hb7⟩
          have hb8 : Below w.heap.size w w7 := (hbv.alloc hbv.size _).trans ((Keep.of_below (S := fun _ => False) hb7).mono (S' := fun _ => False) hwB (fun _ _ h => h)).below
          have hl8 := hbl7.lt.2
          clear hix z0 z1 hwc
          go_wp2
          go_round
          case rel => exact ⟨7, by omega, by go_num, hbl7, hb8, hl8⟩
          case measure => simp [intOf]
        · have hix := idx8_7 y wr
          have z0 := u_lo y.h
          have z1 := u_hi y.h
          have hwc := Lib.hid (word_cells y.h)
          go_wp2_with fail
          rw [hwc.out]
          refine (bwrite_any B B wr.heap.size 4 _ (wordB y.h) (Nat.zero_lt_succ 3) _ (hbl.below ((Below.refl _ _).alloc (Nat.le_refl _) _)) (Blk.new wr _ _) (by omega) (by rw [flat_len]; simp [H8.l, wordB]) (by simp; omega)).mono ?_
          rintro e w7 ⟨rfl, hbl7, hb7⟩
          have hb8 : Below w.heap.size w w7 := (hbv.alloc hbv.size _).trans ((Keep.of_below (S := fun _ => False) hb7).mono (S' := fun _ => False) hwB (fun _ _ h => h)).below
          have hl8 := hbl7.lt.2
          clear hix z0 z1 hwc
          go_wp2
          go_round
          case rel => exact ⟨8, by omega, by go_num, hbl7, hb8, hl8⟩
          case measure => simp [intOf]
        · go_wp2_with fail
          refine (bstring_any B B _ wr hbl (by omega)).mono ?_
          rintro e w7 ⟨rfl, hb7⟩
          have hb8 : Below w.heap.size w w7 := hbv.trans ((Keep.of_below (S := fun _ => False) hb7).mono (S' := fun _ => False) hwB (fun _ _ h => h)).below
          go_wp2
          go_ret
          refine ⟨?_, hb8⟩
          rw [HDG.out]
          rfl

end Go.Proofs.YtcamcjcmhjldpaaDoor
