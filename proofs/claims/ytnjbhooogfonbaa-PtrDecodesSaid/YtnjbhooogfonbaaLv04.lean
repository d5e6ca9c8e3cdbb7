/- The law package's own helper functions of layer 4: contracts of their calls. -/
import Derived.Test.YtnjbhooogfonbaaPt8
namespace Go.Proofs.Ytnjbhooogfonbaa
open Go.RowKit
set_option linter.unusedSimpArgs false
set_option linter.unnecessarySimpa false
set_option linter.unusedVariables false

def smallB (p : Pt) : Bool := decide (p.locs.length ≤ 10) && decide (p.sum.length ≤ 100)
set_option maxHeartbeats 400000 in
theorem small_any (v : Value) (p : Pt) (B : Nat) (w : World) (hv : LocsAt B w v p.locs) :
    Calls Try.prog 9 #[ptV v p] w fun e w' => e = .returned (.bool (smallB p)) ∧ Below w.heap.size w w' := by
  obtain ⟨A, c, rfl, hc, hm⟩ := hv.form
  unfold smallB
  go_enter Try.func9, Try.ntmps9
  go_wp2
  all_goals go_ret
  all_goals exact ⟨ret_bool (by rw [Bool.eq_iff_iff]; simp; omega), (Below.refl _ _).alloc (Nat.le_refl _) _⟩
theorem small_to {p : Pt} {b : Bool} (h : smallB p = b) (v : Value) (B : Nat) (w : World) (hv : LocsAt B w v p.locs) :
    Calls Try.prog 9 #[ptV v p] w fun e w' => e = .returned (.bool b) ∧ Below w.heap.size w w' := by subst h; exact small_any v p B w hv
theorem on_to {p : Pt} {dev : Int} {b : Bool} (h : (p.locs.any fun x => x.dev == dev) = b) (v : Value) (B : Nat) (w : World) (hv : LocsAt B w v p.locs) (hB : B ≤ w.heap.size) :
    Calls Try.prog 15 #[ptV v p, .int .i64 dev] w fun e w' => e = .returned (.bool b) ∧ Below w.heap.size w w' := by subst h; exact on_any v p.locs p.len p.birth dev p.sum B w hv hB
theorem same_to {p q : Pt} {b : Bool} (h : decide (p = q) = b) (v u : Value) (B C : Nat) (w : World) (hv : LocsAt B w v p.locs) (hB : B ≤ w.heap.size) (hu : LocsAt C w u q.locs) (hC : C ≤ w.heap.size) :
    Calls Try.prog 19 #[ptV v p, ptV u q] w fun e w' => e = .returned (.bool b) ∧ Below w.heap.size w w' := by subst h; exact same_any v u p q B C w hv hB hu hC
theorem rsame_to {p q : Pt} {b : Bool} (h : decide (p = q) = b) (v u : Value) (B C : Nat) (w : World) (hv : LocsAt B w v p.locs) (hB : B ≤ w.heap.size) (hu : LocsAt C w u q.locs) (hC : C ≤ w.heap.size) :
    Calls Try.prog 18 #[ptV v p, ptV u q] w fun e w' => e = .returned (.bool b) ∧ Below w.heap.size w w' := by subst h; exact rsame_any v u p q B C w hv hB hu hC

theorem LocsAt.one {w : World} {g : Nat} {a b : Int} (h : Blk w g 31 #[.int .i64 a, .int .i64 b]) : LocsAt w.heap.size w (.slice (some ⟨g, 0, none⟩) 1 1) [⟨a, b⟩] := by
  refine ⟨_, 1, rfl, by simp, by omega, fun _ => ⟨_, rfl, h.lt, fun i hi => ?_⟩⟩
  obtain rfl : i = 0 := by simp at hi; omega
  exact ⟨by have := h.cell 0; simpa [Addr.add] using this, by have := h.cell 1; simpa [Addr.add] using this⟩
def sm32 : List UInt8 := [48, 49, 50, 51, 52, 53, 54, 55, 56, 57, 97, 98, 99, 100, 101, 102, 48, 49, 50, 51, 52, 53, 54, 55, 56, 57, 97, 98, 99, 100, 101, 102]
def pt0 : Pt := ⟨[⟨1, 300⟩], 5, 7, sm32⟩

set_option maxHeartbeats 4000000 in
theorem live_any (w : World) :
    Calls Try.prog 10 #[] w fun e w' => e = .returned (.bool true) ∧ Below w.heap.size w w' := by
  obtain ⟨S, hS⟩ : ∃ S, encP pt0 = S := ⟨_, rfl⟩
  have HL : S.length = 44 := by rw [← hS]; decide +kernel
  have D1 : Hid (decP S = (pt0, 0)) := by show _ = _; rw [← hS]; decide +kernel
  have D2 : Hid (decP (S ++ [120]) = (ptZ, 3)) := by show _ = _; rw [← hS]; decide +kernel
  have D3 : Hid (decP [] = (ptZ, 2)) := by show _ = _; decide +kernel
  have D4 : Hid (decP [3] = (ptZ, 3)) := by show _ = _; decide +kernel
  have C1 : Hid (ckE pt0 = 0) := by show _ = _; decide +kernel
  have C2 : Hid (ckE ptZ = 1) := by show _ = _; decide +kernel
  have O1 : Hid ((pt0.locs.any fun x => x.dev == 1) = true) := by show _ = _; decide +kernel
  have O2 : Hid ((pt0.locs.any fun x => x.dev == 0) = false) := by show _ = _; decide +kernel
  have HS := Lib.hid hS
  clear hS
  go_enter Try.func10, Try.ntmps10
  go_wp2_with fail
  rw [show (⟨#[48, 49, 50, 51, 52, 53, 54, 55, 56, 57, 97, 98, 99, 100, 101, 102, 48, 49, 50, 51, 52, 53, 54, 55, 56, 57, 97, 98, 99, 100, 101, 102]⟩ : ByteArray) = bstr pt0.sum from rfl]
  obtain ⟨L, hL⟩ : ∃ g, w.heap.size = g := ⟨_, rfl⟩
  obtain ⟨wa, hwa⟩ : ∃ w0, w.alloc (.cells #[.int .i64 1, .int .i64 300] 31) = w0 := ⟨_, rfl⟩
  have hla : Blk wa L 31 #[.int .i64 1, .int .i64 300] := by rw [← hwa, ← hL]; exact Blk.new _ _ _
  have ka : Below w.heap.size w wa := by rw [← hwa]; exact (Below.refl _ _).alloc (Nat.le_refl _) _
  have hPa : wa.heap.size = w.heap.size + 1 := by rw [← hwa]; simp
  obtain ⟨P, hP⟩ : ∃ g, w.heap.size + 1 = g := ⟨_, rfl⟩
  rw [hwa, hP, hL]
  obtain ⟨w0, hw0⟩ : ∃ w0, wa.alloc (.cells #[.slice (some ⟨L, 0, none⟩) 1 1, .int .i64 5, .int .i64 7, .string (bstr pt0.sum)] 24) = w0 := ⟨_, rfl⟩
  have hl0 : Blk w0 L 31 #[.int .i64 1, .int .i64 300] := by rw [← hw0]; exact hla.alloc _
  have hp0 : Blk w0 P 24 #[.slice (some ⟨L, 0, none⟩) 1 1, .int .i64 5, .int .i64 7, .string (bstr pt0.sum)] := by rw [← hw0, ← hP, ← hPa]; exact Blk.new _ _ _
  have k0 : Below w.heap.size w w0 := by rw [← hw0]; exact ka.alloc ka.size _
  have hv0 := LocsAt.one hl0
  rw [hw0]
  clear hwa hla ka hPa hP hL hw0 hl0
  refine (enc_ok _ pt0 C1 w0.heap.size w0 hv0 (Nat.le_refl _)).mono ?_
  rintro e w1 ⟨rfl, b1⟩
  rw [HS.out]
  have hp1 := hp0.below b1 hp0.lt
  have hv1 := hv0.keep b1 b1.size
  have k1 := k0.trans (b1.mono k0.size)
  clear b1 hp0 hv0 k0
  go_wp2_with fail
  refine (dec_to D1.out (by rw [HL]; decide) w1).mono ?_
  rintro e w2 ⟨vq, rfl, hq2, b2⟩
  have hp2 := hp1.below b2 hp1.lt
  have hv2 := hv1.keep b2 b2.size
  have k2 := k1.trans (b2.mono k1.size)
  obtain ⟨Aq, cq, rfl, hcq, hcq2⟩ := hq2.form
  clear b2 hp1 hv1 k1
  go_wp2_with fail
  obtain ⟨Q, hQ⟩ : ∃ g, w2.heap.size = g := ⟨_, rfl⟩
  obtain ⟨w3, hw3⟩ : ∃ w3, w2.alloc (.cells #[.slice Aq pt0.locs.length cq, .int .i64 pt0.len, .int .i64 pt0.birth, .string (bstr pt0.sum)] 24) = w3 := ⟨_, rfl⟩
  have b3 : Below w2.heap.size w2 w3 := by rw [← hw3]; exact (Below.refl _ _).alloc (Nat.le_refl _) _
  have hx3 : Blk w3 Q 24 #[.slice Aq pt0.locs.length cq, .int .i64 pt0.len, .int .i64 pt0.birth, .string (bstr pt0.sum)] := by rw [← hw3, ← hQ]; exact Blk.new _ _ _
  rw [hw3, hQ]
  have hp3 := hp2.below b3 hp2.lt
  have hv3 := hv2.keep b3 b3.size
  have hq3 := hq2.keep b3 b3.size
  have k3 := k2.trans (b3.mono k2.size)
  clear hw3 hQ b3 hp2 hv2 hq2 k2
  refine (enc_bad _ ptZ C2 0 _ (LocsAt.nil _ _) (Nat.zero_le _)).mono ?_
  rintro e w4 ⟨rfl, b4⟩
  have hp4 := hp3.below b4 hp3.lt
  have hx4 := hx3.below b4 hx3.lt
  have hv4 := hv3.keep b4 b4.size
  have hq4 := hq3.keep b4 b4.size
  have k4 := k3.trans (b4.mono k3.size)
  clear b4 hp3 hx3 hv3 hq3 k3
  go_wp2_with fail
  refine (dec_to D2.out (by rw [List.length_append, HL]; decide) w4).mono ?_
  rintro e w5 ⟨v5, rfl, hn5, b5⟩
  obtain ⟨A5, q5, rfl, -, -⟩ := hn5.form
  clear hn5
  have hp5 := hp4.below b5 hp4.lt
  have hx5 := hx4.below b5 hx4.lt
  have hv5 := hv4.keep b5 b5.size
  have hq5 := hq4.keep b5 b5.size
  have k5 := k4.trans (b5.mono k4.size)
  clear b5 hp4 hx4 hv4 hq4 k4
  go_wp2_with fail
  obtain ⟨w50, hw50⟩ : ∃ x, w5.alloc (.cells #[.slice A5 ptZ.locs.length q5, .int .i64 ptZ.len, .int .i64 ptZ.birth, .string (bstr ptZ.sum)] 24) = x := ⟨_, rfl⟩
  have b50 : Below w5.heap.size w5 w50 := by rw [← hw50]; exact (Below.refl _ _).alloc (Nat.le_refl _) _
  rw [hw50]
  clear hw50
  have hp50 := hp5.below b50 hp5.lt
  have hx50 := hx5.below b50 hx5.lt
  have hv50 := hv5.keep b50 b50.size
  have hq50 := hq5.keep b50 b50.size
  have k50 := k5.trans (b50.mono k5.size)
  clear b50 hp5 hx5 hv5 hq5 k5
  have hp5 := hp50
  have hx5 := hx50
  have hv5 := hv50
  have hq5 := hq50
  have k5 := k50
  clear hp50 hx50 hv50 hq50 k50
  refine (dec_to D3.out (by decide) w50).mono ?_
  rintro e w6 ⟨v6, rfl, hn6, b6⟩
  obtain ⟨A6, q6, rfl, -, -⟩ := hn6.form
  clear hn6
  have hp6 := hp5.below b6 hp5.lt
  have hx6 := hx5.below b6 hx5.lt
  have hv6 := hv5.keep b6 b6.size
  have hq6 := hq5.keep b6 b6.size
  have k6 := k5.trans (b6.mono k5.size)
  clear b6 hp5 hx5 hv5 hq5 k5
  go_wp2_with fail
  obtain ⟨w60, hw60⟩ : ∃ x, w6.alloc (.cells #[.slice A6 ptZ.locs.length q6, .int .i64 ptZ.len, .int .i64 ptZ.birth, .string (bstr ptZ.sum)] 24) = x := ⟨_, rfl⟩
  have b60 : Below w6.heap.size w6 w60 := by rw [← hw60]; exact (Below.refl _ _).alloc (Nat.le_refl _) _
  rw [hw60]
  clear hw60
  have hp60 := hp6.below b60 hp6.lt
  have hx60 := hx6.below b60 hx6.lt
  have hv60 := hv6.keep b60 b60.size
  have hq60 := hq6.keep b60 b60.size
  have k60 := k6.trans (b60.mono k6.size)
  clear b60 hp6 hx6 hv6 hq6 k6
  have hp6 := hp60
  have hx6 := hx60
  have hv6 := hv60
  have hq6 := hq60
  have k6 := k60
  clear hp60 hx60 hv60 hq60 k60
  refine (dec_to D4.out (by decide) w60).mono ?_
  rintro e w7 ⟨v7, rfl, hn7, b7⟩
  obtain ⟨A7, q7, rfl, -, -⟩ := hn7.form
  clear hn7
  have hp7 := hp6.below b7 hp6.lt
  have hx7 := hx6.below b7 hx6.lt
  have hv7 := hv6.keep b7 b7.size
  have hq7 := hq6.keep b7 b7.size
  have k7 := k6.trans (b7.mono k6.size)
  clear b7 hp6 hx6 hv6 hq6 k6
  have c0 := hp7.cell 0
  have c1 := hp7.cell 1
  have c2 := hp7.cell 2
  have c3 := hp7.cell 3
  have d0 := hx7.cell 0
  have d1 := hx7.cell 1
  have d2 := hx7.cell 2
  have d3 := hx7.cell 3
  simp at c0 c1 c2 c3 d0 d1 d2 d3
  have ca0 := fun o => alloc_cell c0 hp7.lt o
  have ca1 := fun o => alloc_cell c1 hp7.lt o
  have ca2 := fun o => alloc_cell c2 hp7.lt o
  have ca3 := fun o => alloc_cell c3 hp7.lt o
  have da0 := fun o => alloc_cell d0 hx7.lt o
  have da1 := fun o => alloc_cell d1 hx7.lt o
  have da2 := fun o => alloc_cell d2 hx7.lt o
  have da3 := fun o => alloc_cell d3 hx7.lt o
  clear c0 c1 c2 c3 d0 d1 d2 d3
  go_wp2_with fail
  obtain ⟨w70, hw70⟩ : ∃ x, w7.alloc (.cells #[.slice A7 ptZ.locs.length q7, .int .i64 ptZ.len, .int .i64 ptZ.birth, .string (bstr ptZ.sum)] 24) = x := ⟨_, rfl⟩
  have b70 : Below w7.heap.size w7 w70 := by rw [← hw70]; exact (Below.refl _ _).alloc (Nat.le_refl _) _
  rw [hw70]
  clear hw70 ca0 ca1 ca2 ca3 da0 da1 da2 da3
  have hp70 := hp7.below b70 hp7.lt
  have hx70 := hx7.below b70 hx7.lt
  have hv70 := hv7.keep b70 b70.size
  have hq70 := hq7.keep b70 b70.size
  have k70 := k7.trans (b70.mono k7.size)
  clear b70 hp7 hx7 hv7 hq7 k7
  refine (same_to (p := pt0) (q := pt0) (b := true) (decide_eq_true rfl) _ _ w70.heap.size w70.heap.size w70 hv70 (Nat.le_refl _) hq70 (Nat.le_refl _)).mono ?_
  rintro e w8 ⟨rfl, b8⟩
  have hp8 := hp70.below b8 hp70.lt
  have hx8 := hx70.below b8 hx70.lt
  have hv8 := hv70.keep b8 b8.size
  have hq8 := hq70.keep b8 b8.size
  have k8 := k70.trans (b8.mono k70.size)
  clear b8 hp70 hx70 hv70 hq70 k70
  have c0 := hp8.cell 0
  have c1 := hp8.cell 1
  have c2 := hp8.cell 2
  have c3 := hp8.cell 3
  have d0 := hx8.cell 0
  have d1 := hx8.cell 1
  have d2 := hx8.cell 2
  have d3 := hx8.cell 3
  simp at c0 c1 c2 c3 d0 d1 d2 d3
  go_wp2_with fail
  refine (on_to (p := pt0) O1.out _ w8.heap.size w8 hv8 (Nat.le_refl _)).mono ?_
  rintro e w9 ⟨rfl, b9⟩
  clear c0 c1 c2 c3 d0 d1 d2 d3
  have hp9 := hp8.below b9 hp8.lt
  have hx9 := hx8.below b9 hx8.lt
  have hv9 := hv8.keep b9 b9.size
  have hq9 := hq8.keep b9 b9.size
  have k9 := k8.trans (b9.mono k8.size)
  clear b9 hp8 hx8 hv8 hq8 k8
  have c0 := hp9.cell 0
  have c1 := hp9.cell 1
  have c2 := hp9.cell 2
  have c3 := hp9.cell 3
  have d0 := hx9.cell 0
  have d1 := hx9.cell 1
  have d2 := hx9.cell 2
  have d3 := hx9.cell 3
  simp at c0 c1 c2 c3 d0 d1 d2 d3
  go_wp2_with fail
  refine (on_to (p := pt0) O2.out _ w9.heap.size w9 hv9 (Nat.le_refl _)).mono ?_
  rintro e w10 ⟨rfl, b10⟩
  clear c0 c1 c2 c3 d0 d1 d2 d3
  have hp10 := hp9.below b10 hp9.lt
  have hx10 := hx9.below b10 hx9.lt
  have hv10 := hv9.keep b10 b10.size
  have hq10 := hq9.keep b10 b10.size
  have k10 := k9.trans (b10.mono k9.size)
  clear b10 hp9 hx9 hv9 hq9 k9
  have c0 := hp10.cell 0
  have c1 := hp10.cell 1
  have c2 := hp10.cell 2
  have c3 := hp10.cell 3
  have d0 := hx10.cell 0
  have d1 := hx10.cell 1
  have d2 := hx10.cell 2
  have d3 := hx10.cell 3
  simp at c0 c1 c2 c3 d0 d1 d2 d3
  go_wp2_with fail
  refine (check_to (p := pt0) C1.out w10.heap.size w10 hv10 (Nat.le_refl _)).mono ?_
  rintro e w11 ⟨rfl, b11⟩
  clear c0 c1 c2 c3 d0 d1 d2 d3
  have hp11 := hp10.below b11 hp10.lt
  have hx11 := hx10.below b11 hx10.lt
  have hv11 := hv10.keep b11 b11.size
  have hq11 := hq10.keep b11 b11.size
  have k11 := k10.trans (b11.mono k10.size)
  clear b11 hp10 hx10 hv10 hq10 k10
  go_wp2
  go_ret
  exact ⟨rfl, k11⟩

end Go.Proofs.Ytnjbhooogfonbaa
