/- The walk of the law InodeApart: it returns true at every input, and writes to nothing that was there. No condition but that numbers fit their kind. -/
import Derived.Test.YtjbnhofdpklfoaaLv15
import Derived.Test.YtjbnhofdpklfoaaTy
import Derived.Test.YtjbnhofdpklfoaaOrd
namespace Go.Proofs.Ytjbnhofdpklfoaa
open Go.RowKit
set_option linter.unusedSimpArgs false
set_option linter.unnecessarySimpa false
set_option linter.unusedVariables false

set_option maxHeartbeats 2000000 in
theorem apart_in_f (w : World) (n m : Int) (a b : List UInt8) (h0 : 0 ≤ n) (h1 : n ≤ 2147483648) (h2 : 0 ≤ m) (h3 : m ≤ 2147483648) (ha : a.isEmpty = false) (hb : b.isEmpty = false) (ha2 : a.length ≤ 255) (hb2 : b.length ≤ 255)
    (k1 e1 e2 c1 c2 c3 : List UInt8) (H1 : Hid (keyL n = k1)) (H2 : Hid (entryL m b = e2)) (H3 : Hid (chunkL m n = c1)) (H4 : Hid (entryL n a = e1)) (H5 : Hid (chunkL n 1 = c2)) (H6 : Hid (chunkL m 1 = c3))
    (f1 : (k1 == e2) = false) (f2 : (k1 == c1) = false) (f3 : (e1 == c1) = false) (x z : Bool) (g1 : (e1 == e2) = false) (g2 : (c2 == c3) = false) (hy : (n == m) = false) (hz : (a == b) = z) :
    Calls Try.prog 7 #[.agg #[.int .i64 n, .int .i64 m, .string (bstr a), .string (bstr b)]] w fun e w' => e = .returned (.bool true) ∧ Below w.heap.size w w' := by
  go_enter Try.func7, Try.ntmps7
  go_wp2_with fail
  obtain ⟨G, hG⟩ : ∃ g, w.heap.size = g := ⟨_, rfl⟩
  obtain ⟨w0, hw0⟩ : ∃ w0, w.alloc (.cells #[.int .i64 n, .int .i64 m, .string (bstr a), .string (bstr b)] 44) = w0 := ⟨_, rfl⟩
  have hb0 : Blk w0 G 44 #[.int .i64 n, .int .i64 m, .string (bstr a), .string (bstr b)] := by rw [← hw0, ← hG]; exact Blk.new _ _ _
  have k0 : Below w.heap.size w w0 := by rw [← hw0]; exact (Below.refl _ _).alloc (Nat.le_refl _) _
  rw [hw0, hG]
  clear hw0 hG
  have y0 := hb0.cell 0
  have y1 := hb0.cell 1
  have y2 := hb0.cell 2
  have y3 := hb0.cell 3
  simp at y0 y1 y2 y3
  have z0 := k0.size
  go_wp2_with fail
  go_region_held3 (fun w' => w'.cell? ⟨G, 0, none⟩ = some (.int .i64 n) ∧ w'.cell? ⟨G, 1, none⟩ = some (.int .i64 m) ∧ w'.cell? ⟨G, 2, none⟩ = some (.string (bstr a)) ∧ w'.cell? ⟨G, 3, none⟩ = some (.string (bstr b)))
  (first | exact ⟨u0, u1, u2, u3⟩ | exact ⟨t0, t1, t2, t3⟩ | exact ⟨s0, s1, s2, s3⟩ | exact ⟨r0, r1, r2, r3⟩ | exact ⟨q0, q1, q2, q3⟩ | exact ⟨p0, p1, p2, p3⟩ | exact ⟨y0, y1, y2, y3⟩)
  (first
  | (go_at_call 15; refine (chunk_to H3.out w5).mono ?_; rintro e w6 ⟨rfl, b6⟩; have hb6 := hb5.below b6 hb5.lt; have k6 := k5.trans (b6.mono k5.size); have u0 := hb6.cell 0; have u1 := hb6.cell 1; have u2 := hb6.cell 2; have u3 := hb6.cell 3; simp at u0 u1 u2 u3)
  | (go_at_call 13; refine (entry_to H4.out (by omega) w4).mono ?_; rintro e w5 ⟨rfl, b5⟩; have hb5 := hb4.below b5 hb4.lt; have k5 := k4.trans (b5.mono k4.size); have t0 := hb5.cell 0; have t1 := hb5.cell 1; have t2 := hb5.cell 2; have t3 := hb5.cell 3; simp at t0 t1 t2 t3)
  | (go_at_call 15; refine (chunk_to H3.out w3).mono ?_; rintro e w4 ⟨rfl, b4⟩; have hb4 := hb3.below b4 hb3.lt; have k4 := k3.trans (b4.mono k3.size); have s0 := hb4.cell 0; have s1 := hb4.cell 1; have s2 := hb4.cell 2; have s3 := hb4.cell 3; simp at s0 s1 s2 s3)
  | (go_at_call 11; refine (key_to H1.out w2).mono ?_; rintro e w3 ⟨rfl, b3⟩; have hb3 := hb2.below b3 hb2.lt; have k3 := k2.trans (b3.mono k2.size); have r0 := hb3.cell 0; have r1 := hb3.cell 1; have r2 := hb3.cell 2; have r3 := hb3.cell 3; simp at r0 r1 r2 r3)
  | (go_at_call 13; refine (entry_to H2.out (by omega) w1).mono ?_; rintro e w2 ⟨rfl, b2⟩; have hb2 := hb1.below b2 hb1.lt; have k2 := k1.trans (b2.mono k1.size); have q0 := hb2.cell 0; have q1 := hb2.cell 1; have q2 := hb2.cell 2; have q3 := hb2.cell 3; simp at q0 q1 q2 q3)
  | (go_at_call 11; refine (key_to H1.out w0.drew).mono ?_; rintro e w1 ⟨rfl, b1⟩; have hb1 := hb0.below b1.fromDrew hb0.lt; have k1 := k0.trans (b1.fromDrew.mono k0.size); have p0 := hb1.cell 0; have p1 := hb1.cell 1; have p2 := hb1.cell 2; have p3 := hb1.cell 3; simp at p0 p1 p2 p3))
  clear y0 y1 y2 y3 p0 p1 p2 p3 q0 q1 q2 q3 r0 r1 r2 r3 s0 s1 s2 s3 t0 t1 t2 t3 hb0 hb1 hb2 hb3 hb4 hb5 k0 k1 k2 k3 k4 k5 b1 b2 b3 b4 b5 b6 z0
  go_wp2_with fail
  have hb0 := hb6
  have k0 := k6
  have y0 := hb6.cell 0
  have y1 := hb6.cell 1
  have y2 := hb6.cell 2
  have y3 := hb6.cell 3
  simp at y0 y1 y2 y3
  clear u0 u1 u2 u3
  refine wp_region_noPanic ?_
  refine wp_region_held_drew (S := (fun w' => w'.cell? ⟨G, 0, none⟩ = some (.int .i64 n) ∧ w'.cell? ⟨G, 1, none⟩ = some (.int .i64 m) ∧ w'.cell? ⟨G, 2, none⟩ = some (.string (bstr a)) ∧ w'.cell? ⟨G, 3, none⟩ = some (.string (bstr b)))) (by kernel_rfl) ?hS0 (fun hHeld => ?_)
  case hS0 => exact ⟨y0, y1, y2, y3⟩
  refine wpAnyH_take (i := 0) (v := ?_) rfl (by kernel_rfl) (by kernel_rfl) (by kernel_rfl) (fun _ _ _ h => h) (Or.inl ⟨by kernel_rfl, ?_⟩) (by assumption) ?_
  rotate_left
  · (intro w hSw; (try dsimp only at hSw); go_simp; try with_reducible rfl)
  try simp only [Act.put, List.getElem_toArray, List.getElem_cons_succ, List.getElem_cons_zero, List.setIfInBounds_toArray, List.set_cons_zero, List.set_cons_succ]
  refine wpAnyH_take (i := 1) (v := ?_) rfl (by kernel_rfl) (by kernel_rfl) (by kernel_rfl) (fun _ _ _ h => h) (Or.inl ⟨by kernel_rfl, ?_⟩) (by assumption) ?_
  rotate_left
  · (intro w hSw; (try dsimp only at hSw); go_simp; try with_reducible rfl)
  try simp only [Act.put, List.getElem_toArray, List.getElem_cons_succ, List.getElem_cons_zero, List.setIfInBounds_toArray, List.set_cons_zero, List.set_cons_succ]
  refine wpAnyH_take (i := 2) (v := ?_) rfl (by kernel_rfl) (by kernel_rfl) (by kernel_rfl) (fun _ _ _ h => h) (Or.inl ⟨by kernel_rfl, ?_⟩) (by assumption) ?_
  rotate_left
  · (intro w hSw; (try dsimp only at hSw); go_simp; try with_reducible rfl)
  try simp only [Act.put, List.getElem_toArray, List.getElem_cons_succ, List.getElem_cons_zero, List.setIfInBounds_toArray, List.set_cons_zero, List.set_cons_succ]
  refine wpAnyH_take (i := 3) (v := ?_) rfl (by kernel_rfl) (by kernel_rfl) (by kernel_rfl) (fun _ _ _ h => h) (Or.inl ⟨by kernel_rfl, ?_⟩) (by assumption) ?_
  rotate_left
  · (intro w hSw; (try dsimp only at hSw); go_simp; try with_reducible rfl)
  try simp only [Act.put, List.getElem_toArray, List.getElem_cons_succ, List.getElem_cons_zero, List.setIfInBounds_toArray, List.set_cons_zero, List.set_cons_succ]
  refine wpAnyH_take (i := 5) (v := ?_) rfl (by kernel_rfl) (by kernel_rfl) (by kernel_rfl) (fun _ _ _ h => h) (Or.inl ⟨by kernel_rfl, ?_⟩) (by assumption) ?_
  rotate_left
  · (intro w hSw; (try dsimp only at hSw); go_simp; try with_reducible rfl)
  try simp only [Act.put, List.getElem_toArray, List.getElem_cons_succ, List.getElem_cons_zero, List.setIfInBounds_toArray, List.set_cons_zero, List.set_cons_succ]
  refine wpAnyH_take (i := 6) (v := ?_) rfl (by kernel_rfl) (by kernel_rfl) (by kernel_rfl) (fun _ _ _ h => h) (Or.inl ⟨by kernel_rfl, ?_⟩) (by assumption) ?_
  rotate_left
  · (intro w hSw; (try dsimp only at hSw); go_simp; try with_reducible rfl)
  try simp only [Act.put, List.getElem_toArray, List.getElem_cons_succ, List.getElem_cons_zero, List.setIfInBounds_toArray, List.set_cons_zero, List.set_cons_succ]
  refine wpAnyH_take (i := 7) (v := ?_) rfl (by kernel_rfl) (by kernel_rfl) (by kernel_rfl) (fun _ _ _ h => h) (Or.inl ⟨by kernel_rfl, ?_⟩) (by assumption) ?_
  rotate_left
  · (intro w hSw; (try dsimp only at hSw); go_simp; try with_reducible rfl)
  try simp only [Act.put, List.getElem_toArray, List.getElem_cons_succ, List.getElem_cons_zero, List.setIfInBounds_toArray, List.set_cons_zero, List.set_cons_succ]
  refine wpAnyH_take (i := 8) (v := ?_) rfl (by kernel_rfl) (by kernel_rfl) (by kernel_rfl) (fun _ _ _ h => h) (Or.inl ⟨by kernel_rfl, ?_⟩) (by assumption) ?_
  rotate_left
  · (intro w hSw; (try dsimp only at hSw); go_simp; try with_reducible rfl)
  try simp only [Act.put, List.getElem_toArray, List.getElem_cons_succ, List.getElem_cons_zero, List.setIfInBounds_toArray, List.set_cons_zero, List.set_cons_succ]
  refine wpAnyH_take (i := 11) (v := ?_) rfl (by kernel_rfl) (by kernel_rfl) (by kernel_rfl) (fun _ _ _ h => h) (Or.inl ⟨by kernel_rfl, ?_⟩) (by assumption) ?_
  rotate_left
  · (intro w hSw; (try dsimp only at hSw); go_simp; try with_reducible rfl)
  try simp only [Act.put, List.getElem_toArray, List.getElem_cons_succ, List.getElem_cons_zero, List.setIfInBounds_toArray, List.set_cons_zero, List.set_cons_succ]
  refine wpAnyH_take (i := 12) (v := ?_) rfl (by kernel_rfl) (by kernel_rfl) (by kernel_rfl) (fun _ _ _ h => h) (Or.inl ⟨by kernel_rfl, ?_⟩) (by assumption) ?_
  rotate_left
  · (intro w hSw; (try dsimp only at hSw); go_simp; try with_reducible rfl)
  try simp only [Act.put, List.getElem_toArray, List.getElem_cons_succ, List.getElem_cons_zero, List.setIfInBounds_toArray, List.set_cons_zero, List.set_cons_succ]
  refine wpAnyH_take (i := 13) (v := ?_) rfl (by kernel_rfl) (by kernel_rfl) (by kernel_rfl) (fun _ _ _ h => h) (Or.inl ⟨by kernel_rfl, ?_⟩) (by assumption) ?_
  rotate_left
  · (intro w hSw; (try dsimp only at hSw); go_simp; try with_reducible rfl)
  try simp only [Act.put, List.getElem_toArray, List.getElem_cons_succ, List.getElem_cons_zero, List.setIfInBounds_toArray, List.set_cons_zero, List.set_cons_succ]
  refine wpAnyH_take (i := 14) (v := ?_) rfl (by kernel_rfl) (by kernel_rfl) (by kernel_rfl) (fun _ _ _ h => h) (Or.inl ⟨by kernel_rfl, ?_⟩) (by assumption) ?_
  rotate_left
  · (intro w hSw; (try dsimp only at hSw); go_simp; try with_reducible rfl)
  try simp only [Act.put, List.getElem_toArray, List.getElem_cons_succ, List.getElem_cons_zero, List.setIfInBounds_toArray, List.set_cons_zero, List.set_cons_succ]
  refine wpAnyH_take (i := 15) (v := ?_) rfl (by kernel_rfl) (by kernel_rfl) (by kernel_rfl) (fun _ _ _ h => h) (Or.inl ⟨by kernel_rfl, ?_⟩) (by assumption) ?_
  rotate_left
  · (intro w hSw; (try dsimp only at hSw); go_simp; try with_reducible rfl)
  try simp only [Act.put, List.getElem_toArray, List.getElem_cons_succ, List.getElem_cons_zero, List.setIfInBounds_toArray, List.set_cons_zero, List.set_cons_succ]
  refine wpAnyH_ready (rs := [4]) (by kernel_rfl) (by simp) ?_
  refine AllReadyH.cons rfl (fun K hK => ?_) AllReadyH.nil
  go_simp
  go_at_call 13
  refine (entry_to H4.out (by omega) w6.drew).mono ?_
  rintro e v1 ⟨rfl, b1⟩
  have hb1 := hb0.below b1.fromDrew hb0.lt
  have k1 := k0.trans (b1.fromDrew.mono k0.size)
  have p0 := hb1.cell 0
  have p1 := hb1.cell 1
  have p2 := hb1.cell 2
  have p3 := hb1.cell 3
  simp at p0 p1 p2 p3
  dsimp only
  refine hK.out _ _ (⟨p0, p1, p2, p3⟩) (fun hHeld => ?_)
  clear hK K
  try simp only [Act.put, List.getElem_toArray, List.getElem_cons_succ, List.getElem_cons_zero, List.setIfInBounds_toArray, List.set_cons_zero, List.set_cons_succ]
  refine wpAnyH_ready (rs := [9]) (by kernel_rfl) (by simp) ?_
  refine AllReadyH.cons rfl (fun K hK => ?_) AllReadyH.nil
  go_simp
  go_at_call 13
  refine (entry_to H2.out (by omega) v1).mono ?_
  rintro e v2 ⟨rfl, b2⟩
  have hb2 := hb1.below b2 hb1.lt
  have k2 := k1.trans (b2.mono k1.size)
  have q0 := hb2.cell 0
  have q1 := hb2.cell 1
  have q2 := hb2.cell 2
  have q3 := hb2.cell 3
  simp at q0 q1 q2 q3
  dsimp only
  refine hK.out _ _ (⟨q0, q1, q2, q3⟩) (fun hHeld => ?_)
  clear hK K
  try simp only [Act.put, List.getElem_toArray, List.getElem_cons_succ, List.getElem_cons_zero, List.setIfInBounds_toArray, List.set_cons_zero, List.set_cons_succ]
  refine wpAnyH_take (i := 10) (v := ?_) rfl (by kernel_rfl) (by kernel_rfl) (by kernel_rfl) (fun _ _ _ h => h) (Or.inl ⟨by kernel_rfl, ?_⟩) (by assumption) ?_
  rotate_left
  · (intro w hSw; (try dsimp only at hSw); go_simp; try with_reducible rfl)
  try simp only [Act.put, List.getElem_toArray, List.getElem_cons_succ, List.getElem_cons_zero, List.setIfInBounds_toArray, List.set_cons_zero, List.set_cons_succ]
  refine wpAnyH_take (i := 16) (v := ?_) rfl (by kernel_rfl) (by kernel_rfl) (by kernel_rfl) (fun _ _ _ h => h) (Or.inl ⟨by kernel_rfl, ?_⟩) (by assumption) ?_
  rotate_left
  · (intro w hSw; (try dsimp only at hSw); go_simp; try with_reducible rfl)
  try simp only [Act.put, List.getElem_toArray, List.getElem_cons_succ, List.getElem_cons_zero, List.setIfInBounds_toArray, List.set_cons_zero, List.set_cons_succ]
  refine wpAnyH_take (i := 17) (v := undef) rfl (by kernel_rfl) (by kernel_rfl) (by kernel_rfl) (fun _ _ _ h => h) (Or.inr ⟨by kernel_rfl, rfl⟩) (by assumption) ?_
  try simp only [Act.put, List.getElem_toArray, List.getElem_cons_succ, List.getElem_cons_zero, List.setIfInBounds_toArray, List.set_cons_zero, List.set_cons_succ]
  refine wpAnyH_take (i := 18) (v := undef) rfl (by kernel_rfl) (by kernel_rfl) (by kernel_rfl) (fun _ _ _ h => h) (Or.inr ⟨by kernel_rfl, rfl⟩) (by assumption) ?_
  try simp only [Act.put, List.getElem_toArray, List.getElem_cons_succ, List.getElem_cons_zero, List.setIfInBounds_toArray, List.set_cons_zero, List.set_cons_succ]
  refine wpAnyH_take (i := 19) (v := undef) rfl (by kernel_rfl) (by kernel_rfl) (by kernel_rfl) (fun _ _ _ h => h) (Or.inr ⟨by kernel_rfl, rfl⟩) (by assumption) ?_
  try simp only [Act.put, List.getElem_toArray, List.getElem_cons_succ, List.getElem_cons_zero, List.setIfInBounds_toArray, List.set_cons_zero, List.set_cons_succ]
  refine wpAnyH_take (i := 20) (v := undef) rfl (by kernel_rfl) (by kernel_rfl) (by kernel_rfl) (fun _ _ _ h => h) (Or.inr ⟨by kernel_rfl, rfl⟩) (by assumption) ?_
  try simp only [Act.put, List.getElem_toArray, List.getElem_cons_succ, List.getElem_cons_zero, List.setIfInBounds_toArray, List.set_cons_zero, List.set_cons_succ]
  refine wpAnyH_take (i := 21) (v := undef) rfl (by kernel_rfl) (by kernel_rfl) (by kernel_rfl) (fun _ _ _ h => h) (Or.inr ⟨by kernel_rfl, rfl⟩) (by assumption) ?_
  try simp only [Act.put, List.getElem_toArray, List.getElem_cons_succ, List.getElem_cons_zero, List.setIfInBounds_toArray, List.set_cons_zero, List.set_cons_succ]
  refine wpAnyH_take (i := 22) (v := ?_) rfl (by kernel_rfl) (by kernel_rfl) (by kernel_rfl) (fun _ _ _ h => h) (Or.inl ⟨by kernel_rfl, ?_⟩) (by assumption) ?_
  rotate_left
  · (intro w hSw; (try dsimp only at hSw); go_simp; try with_reducible rfl)
  try simp only [Act.put, List.getElem_toArray, List.getElem_cons_succ, List.getElem_cons_zero, List.setIfInBounds_toArray, List.set_cons_zero, List.set_cons_succ]
  refine wpAnyH_take (i := 23) (v := ?_) rfl (by kernel_rfl) (by kernel_rfl) (by kernel_rfl) (fun _ _ _ h => h) (Or.inl ⟨by kernel_rfl, ?_⟩) (by assumption) ?_
  rotate_left
  · (intro w hSw; (try dsimp only at hSw); go_simp; try with_reducible rfl)
  try simp only [Act.put, List.getElem_toArray, List.getElem_cons_succ, List.getElem_cons_zero, List.setIfInBounds_toArray, List.set_cons_zero, List.set_cons_succ]
  refine wpAnyH_take (i := 24) (v := ?_) rfl (by kernel_rfl) (by kernel_rfl) (by kernel_rfl) (fun _ _ _ h => h) (Or.inl ⟨by kernel_rfl, ?_⟩) (by assumption) ?_
  rotate_left
  · (intro w hSw; (try dsimp only at hSw); go_simp; try with_reducible rfl)
  try simp only [Act.put, List.getElem_toArray, List.getElem_cons_succ, List.getElem_cons_zero, List.setIfInBounds_toArray, List.set_cons_zero, List.set_cons_succ]
  refine wpAnyH_take (i := 25) (v := ?_) rfl (by kernel_rfl) (by kernel_rfl) (by kernel_rfl) (fun _ _ _ h => h) (Or.inl ⟨by kernel_rfl, ?_⟩) (by assumption) ?_
  rotate_left
  · (intro w hSw; (try dsimp only at hSw); go_simp; try with_reducible rfl)
  try simp only [Act.put, List.getElem_toArray, List.getElem_cons_succ, List.getElem_cons_zero, List.setIfInBounds_toArray, List.set_cons_zero, List.set_cons_succ]
  refine wpAnyH_take (i := 26) (v := ?_) rfl (by kernel_rfl) (by kernel_rfl) (by kernel_rfl) (fun _ _ _ h => h) (Or.inl ⟨by kernel_rfl, ?_⟩) (by assumption) ?_
  rotate_left
  · (intro w hSw; (try dsimp only at hSw); go_simp; try with_reducible rfl)
  try simp only [Act.put, List.getElem_toArray, List.getElem_cons_succ, List.getElem_cons_zero, List.setIfInBounds_toArray, List.set_cons_zero, List.set_cons_succ]
  refine wpAnyH_take (i := 28) (v := ?_) rfl (by kernel_rfl) (by kernel_rfl) (by kernel_rfl) (fun _ _ _ h => h) (Or.inl ⟨by kernel_rfl, ?_⟩) (by assumption) ?_
  rotate_left
  · (intro w hSw; (try dsimp only at hSw); go_simp; try with_reducible rfl)
  try simp only [Act.put, List.getElem_toArray, List.getElem_cons_succ, List.getElem_cons_zero, List.setIfInBounds_toArray, List.set_cons_zero, List.set_cons_succ]
  refine wpAnyH_take (i := 29) (v := ?_) rfl (by kernel_rfl) (by kernel_rfl) (by kernel_rfl) (fun _ _ _ h => h) (Or.inl ⟨by kernel_rfl, ?_⟩) (by assumption) ?_
  rotate_left
  · (intro w hSw; (try dsimp only at hSw); go_simp; try with_reducible rfl)
  try simp only [Act.put, List.getElem_toArray, List.getElem_cons_succ, List.getElem_cons_zero, List.setIfInBounds_toArray, List.set_cons_zero, List.set_cons_succ]
  refine wpAnyH_take (i := 32) (v := ?_) rfl (by kernel_rfl) (by kernel_rfl) (by kernel_rfl) (fun _ _ _ h => h) (Or.inl ⟨by kernel_rfl, ?_⟩) (by assumption) ?_
  rotate_left
  · (intro w hSw; (try dsimp only at hSw); go_simp; try with_reducible rfl)
  try simp only [Act.put, List.getElem_toArray, List.getElem_cons_succ, List.getElem_cons_zero, List.setIfInBounds_toArray, List.set_cons_zero, List.set_cons_succ]
  refine wpAnyH_take (i := 33) (v := ?_) rfl (by kernel_rfl) (by kernel_rfl) (by kernel_rfl) (fun _ _ _ h => h) (Or.inl ⟨by kernel_rfl, ?_⟩) (by assumption) ?_
  rotate_left
  · (intro w hSw; (try dsimp only at hSw); go_simp; try with_reducible rfl)
  try simp only [Act.put, List.getElem_toArray, List.getElem_cons_succ, List.getElem_cons_zero, List.setIfInBounds_toArray, List.set_cons_zero, List.set_cons_succ]
  refine wpAnyH_take (i := 34) (v := ?_) rfl (by kernel_rfl) (by kernel_rfl) (by kernel_rfl) (fun _ _ _ h => h) (Or.inl ⟨by kernel_rfl, ?_⟩) (by assumption) ?_
  rotate_left
  · (intro w hSw; (try dsimp only at hSw); go_simp; try with_reducible rfl)
  try simp only [Act.put, List.getElem_toArray, List.getElem_cons_succ, List.getElem_cons_zero, List.setIfInBounds_toArray, List.set_cons_zero, List.set_cons_succ]
  refine wpAnyH_take (i := 35) (v := ?_) rfl (by kernel_rfl) (by kernel_rfl) (by kernel_rfl) (fun _ _ _ h => h) (Or.inl ⟨by kernel_rfl, ?_⟩) (by assumption) ?_
  rotate_left
  · (intro w hSw; (try dsimp only at hSw); go_simp; try with_reducible rfl)
  try simp only [Act.put, List.getElem_toArray, List.getElem_cons_succ, List.getElem_cons_zero, List.setIfInBounds_toArray, List.set_cons_zero, List.set_cons_succ]
  refine wpAnyH_take (i := 36) (v := ?_) rfl (by kernel_rfl) (by kernel_rfl) (by kernel_rfl) (fun _ _ _ h => h) (Or.inl ⟨by kernel_rfl, ?_⟩) (by assumption) ?_
  rotate_left
  · (intro w hSw; (try dsimp only at hSw); go_simp; try with_reducible rfl)
  try simp only [Act.put, List.getElem_toArray, List.getElem_cons_succ, List.getElem_cons_zero, List.setIfInBounds_toArray, List.set_cons_zero, List.set_cons_succ]
  refine wpAnyH_ready (rs := [27]) (by kernel_rfl) (by simp) ?_
  refine AllReadyH.cons rfl (fun K hK => ?_) AllReadyH.nil
  go_simp
  go_at_call 15
  refine (chunk_to H5.out v2).mono ?_
  rintro e v3 ⟨rfl, b3⟩
  have hb3 := hb2.below b3 hb2.lt
  have k3 := k2.trans (b3.mono k2.size)
  have r0 := hb3.cell 0
  have r1 := hb3.cell 1
  have r2 := hb3.cell 2
  have r3 := hb3.cell 3
  simp at r0 r1 r2 r3
  dsimp only
  refine hK.out _ _ (⟨r0, r1, r2, r3⟩) (fun hHeld => ?_)
  clear hK K
  try simp only [Act.put, List.getElem_toArray, List.getElem_cons_succ, List.getElem_cons_zero, List.setIfInBounds_toArray, List.set_cons_zero, List.set_cons_succ]
  refine wpAnyH_ready (rs := [30]) (by kernel_rfl) (by simp) ?_
  refine AllReadyH.cons rfl (fun K hK => ?_) AllReadyH.nil
  go_simp
  go_at_call 15
  refine (chunk_to H6.out v3).mono ?_
  rintro e v4 ⟨rfl, b4⟩
  have hb4 := hb3.below b4 hb3.lt
  have k4 := k3.trans (b4.mono k3.size)
  have s0 := hb4.cell 0
  have s1 := hb4.cell 1
  have s2 := hb4.cell 2
  have s3 := hb4.cell 3
  simp at s0 s1 s2 s3
  dsimp only
  refine hK.out _ _ (⟨s0, s1, s2, s3⟩) (fun hHeld => ?_)
  clear hK K
  try simp only [Act.put, List.getElem_toArray, List.getElem_cons_succ, List.getElem_cons_zero, List.setIfInBounds_toArray, List.set_cons_zero, List.set_cons_succ]
  refine wpAnyH_take (i := 31) (v := ?_) rfl (by kernel_rfl) (by kernel_rfl) (by kernel_rfl) (fun _ _ _ h => h) (Or.inl ⟨by kernel_rfl, ?_⟩) (by assumption) ?_
  rotate_left
  · (intro w hSw; (try dsimp only at hSw); go_simp; try with_reducible rfl)
  try simp only [Act.put, List.getElem_toArray, List.getElem_cons_succ, List.getElem_cons_zero, List.setIfInBounds_toArray, List.set_cons_zero, List.set_cons_succ]
  refine wpAnyH_take (i := 37) (v := ?_) rfl (by kernel_rfl) (by kernel_rfl) (by kernel_rfl) (fun _ _ _ h => h) (Or.inl ⟨by kernel_rfl, ?_⟩) (by assumption) ?_
  rotate_left
  · (intro w hSw; (try dsimp only at hSw); go_simp; try with_reducible rfl)
  try simp only [Act.put, List.getElem_toArray, List.getElem_cons_succ, List.getElem_cons_zero, List.setIfInBounds_toArray, List.set_cons_zero, List.set_cons_succ]
  refine wpAnyH_take (i := 38) (v := ?_) rfl (by kernel_rfl) (by kernel_rfl) (by kernel_rfl) (fun _ _ _ h => h) (Or.inl ⟨by kernel_rfl, ?_⟩) (by assumption) ?_
  rotate_left
  · (intro w hSw; (try dsimp only at hSw); go_simp; try with_reducible rfl)
  try simp only [Act.put, List.getElem_toArray, List.getElem_cons_succ, List.getElem_cons_zero, List.setIfInBounds_toArray, List.set_cons_zero, List.set_cons_succ]
  refine wpAnyH_take (i := 39) (v := ?_) rfl (by kernel_rfl) (by kernel_rfl) (by kernel_rfl) (fun _ _ _ h => h) (Or.inl ⟨by kernel_rfl, ?_⟩) (by assumption) ?_
  rotate_left
  · (intro w hSw; (try dsimp only at hSw); go_simp; try with_reducible rfl)
  try simp only [Act.put, List.getElem_toArray, List.getElem_cons_succ, List.getElem_cons_zero, List.setIfInBounds_toArray, List.set_cons_zero, List.set_cons_succ]
  refine wpAnyH_ready (rs := [40]) (by kernel_rfl) (by simp) ?_
  refine AllReadyH.cons rfl (fun K hK => ?_) AllReadyH.nil
  go_simp
  go_at_call 8
  refine (live_any v4).mono ?_
  rintro e v5 ⟨rfl, b5⟩
  have hb5 := hb4.below b5 hb4.lt
  have k5 := k4.trans (b5.mono k4.size)
  have t0 := hb5.cell 0
  have t1 := hb5.cell 1
  have t2 := hb5.cell 2
  have t3 := hb5.cell 3
  simp at t0 t1 t2 t3
  dsimp only
  refine hK.out _ _ (⟨t0, t1, t2, t3⟩) (fun hHeld => ?_)
  clear hK K
  try simp only [Act.put, List.getElem_toArray, List.getElem_cons_succ, List.getElem_cons_zero, List.setIfInBounds_toArray, List.set_cons_zero, List.set_cons_succ]
  refine wpAnyH_take (i := 41) (v := ?_) rfl (by kernel_rfl) (by kernel_rfl) (by kernel_rfl) (fun _ _ _ h => h) (Or.inl ⟨by kernel_rfl, ?_⟩) (by assumption) ?_
  rotate_left
  · (intro w hSw; (try dsimp only at hSw); go_simp; try with_reducible rfl)
  try simp only [Act.put, List.getElem_toArray, List.getElem_cons_succ, List.getElem_cons_zero, List.setIfInBounds_toArray, List.set_cons_zero, List.set_cons_succ]
  refine wpAnyH_take (i := 42) (v := ?_) rfl (by kernel_rfl) (by kernel_rfl) (by kernel_rfl) (fun _ _ _ h => h) (Or.inl ⟨by kernel_rfl, ?_⟩) (by assumption) ?_
  rotate_left
  · (intro w hSw; (try dsimp only at hSw); go_simp; try with_reducible rfl)
  try simp only [Act.put, List.getElem_toArray, List.getElem_cons_succ, List.getElem_cons_zero, List.setIfInBounds_toArray, List.set_cons_zero, List.set_cons_succ]
  refine wpAnyH_done (by kernel_rfl) ?_ _
  refine NoPanic.normal ?_
  go_wp2
  go_ret
  exact ⟨rfl, k5⟩

set_option maxHeartbeats 2000000 in
theorem apart_in_t (w : World) (n m : Int) (a b : List UInt8) (h0 : 0 ≤ n) (h1 : n ≤ 2147483648) (h2 : 0 ≤ m) (h3 : m ≤ 2147483648) (ha : a.isEmpty = false) (hb : b.isEmpty = false) (ha2 : a.length ≤ 255) (hb2 : b.length ≤ 255)
    (k1 e1 e2 c1 c2 c3 : List UInt8) (H1 : Hid (keyL n = k1)) (H2 : Hid (entryL m b = e2)) (H3 : Hid (chunkL m n = c1)) (H4 : Hid (entryL n a = e1)) (H5 : Hid (chunkL n 1 = c2)) (H6 : Hid (chunkL m 1 = c3))
    (f1 : (k1 == e2) = false) (f2 : (k1 == c1) = false) (f3 : (e1 == c1) = false) (z : Bool) (g1 : (e1 == e2) = z) (g2 : (c2 == c3) = true) (hy : (n == m) = true) (hz : (a == b) = z) :
    Calls Try.prog 7 #[.agg #[.int .i64 n, .int .i64 m, .string (bstr a), .string (bstr b)]] w fun e w' => e = .returned (.bool true) ∧ Below w.heap.size w w' := by
  cases z
  all_goals
    go_enter Try.func7, Try.ntmps7
    go_wp2_with fail
    obtain ⟨G, hG⟩ : ∃ g, w.heap.size = g := ⟨_, rfl⟩
    obtain ⟨w0, hw0⟩ : ∃ w0, w.alloc (.cells #[.int .i64 n, .int .i64 m, .string (bstr a), .string (bstr b)] 44) = w0 := ⟨_, rfl⟩
    have hb0 : Blk w0 G 44 #[.int .i64 n, .int .i64 m, .string (bstr a), .string (bstr b)] := by rw [← hw0, ← hG]; exact Blk.new _ _ _
    have k0 : Below w.heap.size w w0 := by rw [← hw0]; exact (Below.refl _ _).alloc (Nat.le_refl _) _
    rw [hw0, hG]
    clear hw0 hG
    have y0 := hb0.cell 0
    have y1 := hb0.cell 1
    have y2 := hb0.cell 2
    have y3 := hb0.cell 3
    simp at y0 y1 y2 y3
    have z0 := k0.size
    go_wp2_with fail
    go_region_held3 (fun w' => w'.cell? ⟨G, 0, none⟩ = some (.int .i64 n) ∧ w'.cell? ⟨G, 1, none⟩ = some (.int .i64 m) ∧ w'.cell? ⟨G, 2, none⟩ = some (.string (bstr a)) ∧ w'.cell? ⟨G, 3, none⟩ = some (.string (bstr b)))
    (first | exact ⟨u0, u1, u2, u3⟩ | exact ⟨t0, t1, t2, t3⟩ | exact ⟨s0, s1, s2, s3⟩ | exact ⟨r0, r1, r2, r3⟩ | exact ⟨q0, q1, q2, q3⟩ | exact ⟨p0, p1, p2, p3⟩ | exact ⟨y0, y1, y2, y3⟩)
    (first
    | (go_at_call 15; refine (chunk_to H3.out w5).mono ?_; rintro e w6 ⟨rfl, b6⟩; have hb6 := hb5.below b6 hb5.lt; have k6 := k5.trans (b6.mono k5.size); have u0 := hb6.cell 0; have u1 := hb6.cell 1; have u2 := hb6.cell 2; have u3 := hb6.cell 3; simp at u0 u1 u2 u3)
    | (go_at_call 13; refine (entry_to H4.out (by omega) w4).mono ?_; rintro e w5 ⟨rfl, b5⟩; have hb5 := hb4.below b5 hb4.lt; have k5 := k4.trans (b5.mono k4.size); have t0 := hb5.cell 0; have t1 := hb5.cell 1; have t2 := hb5.cell 2; have t3 := hb5.cell 3; simp at t0 t1 t2 t3)
    | (go_at_call 15; refine (chunk_to H3.out w3).mono ?_; rintro e w4 ⟨rfl, b4⟩; have hb4 := hb3.below b4 hb3.lt; have k4 := k3.trans (b4.mono k3.size); have s0 := hb4.cell 0; have s1 := hb4.cell 1; have s2 := hb4.cell 2; have s3 := hb4.cell 3; simp at s0 s1 s2 s3)
    | (go_at_call 11; refine (key_to H1.out w2).mono ?_; rintro e w3 ⟨rfl, b3⟩; have hb3 := hb2.below b3 hb2.lt; have k3 := k2.trans (b3.mono k2.size); have r0 := hb3.cell 0; have r1 := hb3.cell 1; have r2 := hb3.cell 2; have r3 := hb3.cell 3; simp at r0 r1 r2 r3)
    | (go_at_call 13; refine (entry_to H2.out (by omega) w1).mono ?_; rintro e w2 ⟨rfl, b2⟩; have hb2 := hb1.below b2 hb1.lt; have k2 := k1.trans (b2.mono k1.size); have q0 := hb2.cell 0; have q1 := hb2.cell 1; have q2 := hb2.cell 2; have q3 := hb2.cell 3; simp at q0 q1 q2 q3)
    | (go_at_call 11; refine (key_to H1.out w0.drew).mono ?_; rintro e w1 ⟨rfl, b1⟩; have hb1 := hb0.below b1.fromDrew hb0.lt; have k1 := k0.trans (b1.fromDrew.mono k0.size); have p0 := hb1.cell 0; have p1 := hb1.cell 1; have p2 := hb1.cell 2; have p3 := hb1.cell 3; simp at p0 p1 p2 p3))
    clear y0 y1 y2 y3 p0 p1 p2 p3 q0 q1 q2 q3 r0 r1 r2 r3 s0 s1 s2 s3 t0 t1 t2 t3 hb0 hb1 hb2 hb3 hb4 hb5 k0 k1 k2 k3 k4 k5 b1 b2 b3 b4 b5 b6 z0
    go_wp2_with fail
    have hb0 := hb6
    have k0 := k6
    have y0 := hb6.cell 0
    have y1 := hb6.cell 1
    have y2 := hb6.cell 2
    have y3 := hb6.cell 3
    simp at y0 y1 y2 y3
    clear u0 u1 u2 u3
    go_region_held3 (fun w' => w'.cell? ⟨G, 0, none⟩ = some (.int .i64 n) ∧ w'.cell? ⟨G, 1, none⟩ = some (.int .i64 m) ∧ w'.cell? ⟨G, 2, none⟩ = some (.string (bstr a)) ∧ w'.cell? ⟨G, 3, none⟩ = some (.string (bstr b)))
    (first | exact ⟨t0, t1, t2, t3⟩ | exact ⟨s0, s1, s2, s3⟩ | exact ⟨r0, r1, r2, r3⟩ | exact ⟨q0, q1, q2, q3⟩ | exact ⟨p0, p1, p2, p3⟩ | exact ⟨y0, y1, y2, y3⟩)
    (first
    | (go_at_call 8; refine (live_any v4).mono ?_; rintro e v5 ⟨rfl, b5⟩; have hb5 := hb4.below b5 hb4.lt; have k5 := k4.trans (b5.mono k4.size); have t0 := hb5.cell 0; have t1 := hb5.cell 1; have t2 := hb5.cell 2; have t3 := hb5.cell 3; simp at t0 t1 t2 t3)
    | (go_at_call 15; refine (chunk_to H6.out v3).mono ?_; rintro e v4 ⟨rfl, b4⟩; have hb4 := hb3.below b4 hb3.lt; have k4 := k3.trans (b4.mono k3.size); have s0 := hb4.cell 0; have s1 := hb4.cell 1; have s2 := hb4.cell 2; have s3 := hb4.cell 3; simp at s0 s1 s2 s3)
    | (go_at_call 15; refine (chunk_to H5.out v2).mono ?_; rintro e v3 ⟨rfl, b3⟩; have hb3 := hb2.below b3 hb2.lt; have k3 := k2.trans (b3.mono k2.size); have r0 := hb3.cell 0; have r1 := hb3.cell 1; have r2 := hb3.cell 2; have r3 := hb3.cell 3; simp at r0 r1 r2 r3)
    | (go_at_call 13; refine (entry_to H2.out (by omega) v1).mono ?_; rintro e v2 ⟨rfl, b2⟩; have hb2 := hb1.below b2 hb1.lt; have k2 := k1.trans (b2.mono k1.size); have q0 := hb2.cell 0; have q1 := hb2.cell 1; have q2 := hb2.cell 2; have q3 := hb2.cell 3; simp at q0 q1 q2 q3)
    | (go_at_call 13; refine (entry_to H4.out (by omega) w6.drew).mono ?_; rintro e v1 ⟨rfl, b1⟩; have hb1 := hb0.below b1.fromDrew hb0.lt; have k1 := k0.trans (b1.fromDrew.mono k0.size); have p0 := hb1.cell 0; have p1 := hb1.cell 1; have p2 := hb1.cell 2; have p3 := hb1.cell 3; simp at p0 p1 p2 p3))
    go_wp2
    go_ret
    exact ⟨rfl, k5⟩

set_option maxHeartbeats 2000000 in
theorem inodeApart_walk (w : World) (a0 : D_permafrostlaw15_Two) (h0_0 : (Lit.int .i64 a0.n).wf = true) (h0_1 : (Lit.int .i64 a0.m).wf = true) (h0_2 : a0.a.length ≤ 9223372036854775807) (h0_3 : a0.b.length ≤ 9223372036854775807) :
    Calls Try.prog 7 #[.agg #[.int .i64 a0.n, .int .i64 a0.m, .string (bstr a0.a), .string (bstr a0.b)]] w fun e w' => e = .returned (.bool true) ∧ Below w.heap.size w w' := by
  obtain ⟨n, m, a, b⟩ := a0
  clear h0_0 h0_1
  show Calls Try.prog 7 #[.agg #[.int .i64 n, .int .i64 m, .string (bstr a), .string (bstr b)]] w _
  simp only at h0_2 h0_3
  by_cases hg : (0 ≤ n ∧ n ≤ 2147483648) ∧ (0 ≤ m ∧ m ≤ 2147483648) ∧ (a.isEmpty = false ∧ b.isEmpty = false) ∧ a.length ≤ 255 ∧ b.length ≤ 255
  · obtain ⟨⟨h0, h1⟩, ⟨h2, h3⟩, ⟨ha, hb⟩, ha2, hb2⟩ := hg
    have ha' : a ≠ [] := by simpa using ha
    have hb' : b ≠ [] := by simpa using hb
    have f1 : (keyL n == entryL m b) = false := by simpa using key_entry h0 h1 h2 h3 hb' hb2
    have f2 : (keyL n == chunkL m n) = false := by simpa using key_chunk h0 h1 h2 h3 h0 h1
    have f3 : (entryL n a == chunkL m n) = false := by simpa using entry_chunk h0 h1 h2 h3 h0 h1 ha' ha2
    have es := entry_same h0 h1 h2 h3 ha' hb' ha2 hb2
    have cs := chunk_same h0 h1 h2 h3
    by_cases hnm : n = m
    · have g2 : (chunkL n 1 == chunkL m 1) = true := by rw [hnm]; simp
      have hy : (n == m) = true := by simp [hnm]
      have g1 : (entryL n a == entryL m b) = (a == b) := by
        rw [Bool.eq_iff_iff, beq_iff_eq, beq_iff_eq, es]
        exact ⟨fun h => h.2, fun h => ⟨hnm, h⟩⟩
      exact apart_in_t w n m a b h0 h1 h2 h3 ha hb ha2 hb2 _ _ _ _ _ _ rfl rfl rfl rfl rfl rfl f1 f2 f3 _ g1 g2 hy rfl
    · have g2 : (chunkL n 1 == chunkL m 1) = false := by simpa [cs] using hnm
      have hy : (n == m) = false := by simp [hnm]
      have g1 : (entryL n a == entryL m b) = false := by
        rw [← Bool.not_eq_true]
        simp only [beq_iff_eq, es, hnm, false_and, not_false_eq_true]
      exact apart_in_f w n m a b h0 h1 h2 h3 ha hb ha2 hb2 _ _ _ _ _ _ rfl rfl rfl rfl rfl rfl f1 f2 f3 false _ g1 g2 hy rfl
  · go_enter Try.func7, Try.ntmps7
    have HG := Lib.hid hg
    clear hg
    go_wp2_with fail
    all_goals first
      | (go_at_call 8
         refine (live_any _).mono ?_
         rintro e w1 ⟨rfl, b1⟩
         go_wp2
         go_ret
         exact ⟨rfl, ((Below.refl _ _).alloc (Nat.le_refl _) _).trans (b1.mono (by simp))⟩)
      | exact absurd ⟨⟨by omega, by omega⟩, ⟨by omega, by omega⟩, ⟨by simp_all, by simp_all⟩, by omega, by omega⟩ HG.out

end Go.Proofs.Ytjbnhofdpklfoaa
