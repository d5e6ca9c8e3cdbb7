/- Write and Best of package uber: contracts. -/
import Derived.Test.YtcamcjcmhjldpaaDoorUf
import Derived.Test.YtcamcjcmhjldpaaDoorUe
namespace Go.Proofs.YtcamcjcmhjldpaaDoor
open Go Go.RowKit
set_option linter.unusedSimpArgs false
set_option linter.unnecessarySimpa false
set_option linter.unusedVariables false

section
variable {w wi wj wk : World} {S : Nat → Prop} {g : Nat} {d d1 d2 : Dv}
theorem LvPost.trans (h : LvPost w wi S g d1 wj) (k : ∀ S', Lv w wj S' g d1 → Below w.heap.size w wj → LvPost w wj S' g d2 wk) : LvPost w wi S g d2 wk := by
  obtain ⟨S1, l1, g1, k1, b1⟩ := h
  obtain ⟨S2, l2, g2, k2, b2⟩ := k S1 l1 b1
  exact ⟨S2, l2, fun j e => (g2 j e).elim (fun e => g1 j e) (fun e => .inr (Nat.le_trans k1.size e)), k1.then k2 k1.size (fun j hj e => (g1 j e).elim (fun e => e) (fun e => absurd e (by omega))), b2⟩
theorem LvPost.from (hb : Below wi.heap.size wi wj) (h : LvPost w wj S g d wk) : LvPost w wi S g d wk := by
  obtain ⟨S1, l1, g1, k1, b1⟩ := h
  exact ⟨S1, l1, fun j e => (g1 j e).imp_right (fun e => Nat.le_trans hb.size e), (Keep.of_below hb).then k1 hb.size (fun _ _ e => e), b1⟩
theorem LvPost.below (h : LvPost w wi S g d wj) (k : Below wj.heap.size wj wk) : LvPost w wi S g d wk := by
  obtain ⟨S1, l1, g1, k1, b1⟩ := h
  exact ⟨S1, l1.below k, g1, k1.then (Keep.of_below (S := fun _ => False) k) k1.size (fun _ _ e => e.elim), hthen b1 k⟩
theorem Lv.here (h : Lv w wi S g d) (hb : Below w.heap.size w wi) : LvPost w wi S g d wi := ⟨S, h, fun _ e => .inl e, Keep.refl _ _ _, hb⟩
end
/-- behind so many writes of a root -/
def uwK (d : Dv) (p : Nat) (s : List UInt8) : Nat → Dv
  | 0 => d
  | 1 => d.write ⟨0, p⟩ s
  | _ => d.uw p s

set_option maxRecDepth 100000 in
set_option maxHeartbeats 4000000 in
theorem uwriteL (S : Nat → Prop) (g : Nat) (d : Dv) (u : Ub) (p : Nat) (hE : ubE u = 0) (hp : u.txg % 4 = p) (h0 : mayE d ⟨0, p⟩ (ubL u) = 0) (h1 : mayE (d.write ⟨0, p⟩ (ubL u)) ⟨1, p⟩ (ubL u) = 0) (hn : d.ws.length ≤ 99990) (w wi : World) (hb : Below w.heap.size w wi) (hR : RootsAt wi) (h : Lv w wi S g d) :
    Calls Tryd.prog 17 #[.pointer (some ⟨g, 0, none⟩), .agg #[.int .i64 u.txg, .string (bstr u.load)]] wi fun e wj => e = .returned (.int .i64 0) ∧ LvPost w wi S g (d.uw p (ubL u)) wj := by
  have hlen := (ubE_ok hE).2.2
  have hpos := (ubE_ok hE).1
  have hmod : u.txg.tmod 4 = p := by rw [Int.tmod_eq_emod_of_nonneg hpos]; exact hp
  obtain ⟨t, l⟩ := u
  simp only at hlen hpos hmod
  obtain ⟨s, hs⟩ : ∃ s, ubL ⟨t, l⟩ = s := ⟨_, rfl⟩
  rw [hs] at h0 h1 ⊢
  have HS := Lib.hid hs
  have HE := Lib.hid hE
  have H0 := Lib.hid h0
  have H1 := Lib.hid h1
  have hn1 : (d.write ⟨0, p⟩ s).ws.length ≤ 100000 := by unfold Dv.write; split <;> simp <;> omega
  have W0 : (⟨t, l⟩ : Ub).load.length ≤ 140737488351232 := by show l.length ≤ _; omega
  have bel : Below wi.heap.size wi wi := Below.refl _ _
  clear hs hE h0 h1 hp hlen hpos
  go_enter Tryd.func17, Tryd.ntmps17
  go_wp2_with fail
  obtain ⟨w1, hw1⟩ : ∃ x, wi.alloc (.cells #[.int .i64 t, .string (bstr l)] 28) = x := ⟨_, rfl⟩
  obtain ⟨ib0, hib0⟩ : ∃ i, wi.heap.size = i := ⟨_, rfl⟩
  have b0 : Blk w1 ib0 28 #[.int .i64 t, .string (bstr l)] := by rw [← hw1, ← hib0]; exact Blk.new _ _ _
  have k1 : Below wi.heap.size wi w1 := by rw [← hw1]; exact (Below.refl _ _).alloc (Nat.le_refl _) _
  have zb0 : w1.heap.size = ib0 + 1 := by rw [← hw1, ← hib0]; simp
  rw [hw1, hib0]
  have hR := hR.moved k1
  have bel := hthen bel k1
  clear k1
  clear hw1 hib0
  have b0c0 := b0.cell 0
  have b0c1 := b0.cell 1
  simp at b0c0 b0c1
  have b0lt := b0.lt
  try (go_wp2_with fail)
  refine (uenc_to (u := ⟨t, l⟩) HS.out HE.out W0 _ hR).mono ?_
  rintro e w2 ⟨rfl, k2⟩
  clear b0c0 b0c1 b0lt
  have b0 := b0.below k2 b0.lt
  have hR := hR.moved k2
  have bel := hthen bel k2
  clear k2
  have b0c0 := b0.cell 0
  have b0c1 := b0.cell 1
  simp at b0c0 b0c1
  have b0lt := b0.lt
  go_wp2_with fail
  clear b0c0 b0c1 b0lt
  have ix0 : ∀ w, (Instr.index 76 (.agg #[.int .i64 0, .int .i64 p, .int .i64 1, .int .i64 p]) (.int .i64 0)).run Tryd.prog w = .ok (.agg #[.int .i64 0, .int .i64 p]) w := fun _ => by kernel_rfl
  have ix1 : ∀ w, (Instr.index 76 (.agg #[.int .i64 0, .int .i64 p, .int .i64 1, .int .i64 p]) (.int .i64 1)).run Tryd.prog w = .ok (.agg #[.int .i64 1, .int .i64 p]) w := fun _ => by kernel_rfl
  have hbW := hb.trans (bel.mono hb.size)
  have lv := h.below bel
  have P0 := lv.here hbW
  clear h lv hbW b0 hR
  go_loopw [6, 29] (fun e i wr => ∃ k : Nat, k ≤ 2 ∧ i = .int .i64 k ∧ e = .int .i64 (if k = 0 then 5 else 0) ∧ LvPost w w2 S g (uwK d p s k) wr) (fun _ i _ => 2 - (intOf i).toNat)
  case atStart => exact ⟨0, by omega, rfl, rfl, P0⟩
  case round =>
    clear P0
    obtain ⟨k, hk, rfl, rfl, post⟩ := hrel
    obtain rfl | rfl | rfl : k = 0 ∨ k = 1 ∨ k = 2 := by omega
    · obtain ⟨S1, l1, g1, k1, b1⟩ := post
      go_wp2_with fail
      obtain ⟨wl, hwl⟩ : ∃ x, wr.alloc (.cells #[.int .i64 0, .int .i64 p] 51) = x := ⟨_, rfl⟩
      have kl : Below wr.heap.size wr wl := by rw [← hwl]; exact (Below.refl _ _).alloc (Nat.le_refl _) _
      rw [hwl]
      clear hwl
      have l2 : Lv w wl S1 g d := l1.below kl
      have b2 := hthen b1 kl
      have k2 := k1.then (Keep.of_below (S := fun _ => False) kl) k1.size (fun _ _ e => e.elim)
      clear l1 kl b1 k1
      refine (writeL (e0 := 0) S1 g d ⟨0, p⟩ s H0.out (by omega) w wl b2 l2).mono ?_
      rintro e wj ⟨rfl, S2, l3, g3, k3, b3⟩
      have post3 : LvPost w w2 S g (uwK d p s 1) wj := ⟨S2, l3, fun j e => (g3 j e).elim (fun e => g1 j e) (fun e => .inr (Nat.le_trans k2.size e)), k2.then k3 k2.size (fun j hj e => (g1 j e).elim (fun e => e) (fun e => absurd e (by omega))), b3⟩
      clear l3 g3 k3 b3 k2 l2 g1
      go_wp2
      go_roundw
      case rel => exact ⟨1, by omega, rfl, rfl, post3⟩
      case measure => simp [intOf]
    · obtain ⟨S1, l1, g1, k1, b1⟩ := post
      go_wp2_with fail
      obtain ⟨wl, hwl⟩ : ∃ x, wr.alloc (.cells #[.int .i64 1, .int .i64 p] 51) = x := ⟨_, rfl⟩
      have kl : Below wr.heap.size wr wl := by rw [← hwl]; exact (Below.refl _ _).alloc (Nat.le_refl _) _
      rw [hwl]
      clear hwl
      have l2 : Lv w wl S1 g (d.write ⟨0, p⟩ s) := l1.below kl
      have b2 := hthen b1 kl
      have k2 := k1.then (Keep.of_below (S := fun _ => False) kl) k1.size (fun _ _ e => e.elim)
      clear l1 kl b1 k1
      refine (writeL (e0 := 0) S1 g (d.write ⟨0, p⟩ s) ⟨1, p⟩ s H1.out hn1 w wl b2 l2).mono ?_
      rintro e wj ⟨rfl, S2, l3, g3, k3, b3⟩
      have post3 : LvPost w w2 S g (uwK d p s 2) wj := ⟨S2, l3, fun j e => (g3 j e).elim (fun e => g1 j e) (fun e => .inr (Nat.le_trans k2.size e)), k2.then k3 k2.size (fun j hj e => (g1 j e).elim (fun e => e) (fun e => absurd e (by omega))), b3⟩
      clear l3 g3 k3 b3 k2 l2 g1
      go_wp2
      go_roundw
      case rel => exact ⟨2, by omega, rfl, rfl, post3⟩
      case measure => simp [intOf]
    · go_wp2
      go_ret
      exact ⟨rfl, LvPost.from bel post⟩

set_option maxRecDepth 100000 in
set_option maxHeartbeats 2000000 in
theorem uwrite_bad (A : Option Addr) (u : Ub) (hE : ubE u = 1) (hl : u.load.length ≤ 140737488351232) (wi : World) (hR : RootsAt wi) :
    Calls Tryd.prog 17 #[.pointer A, .agg #[.int .i64 u.txg, .string (bstr u.load)]] wi fun e wj => e = .returned (.int .i64 1) ∧ Below wi.heap.size wi wj := by
  obtain ⟨t, l⟩ := u
  have HE := Lib.hid hE
  have HL : Hid (ubL ⟨t, l⟩ = []) := Lib.hid (by unfold ubL; rw [hE]; rfl)
  have bel : Below wi.heap.size wi wi := Below.refl _ _
  obtain ⟨B, hB0⟩ : ∃ B, wi.heap.size = B := ⟨_, rfl⟩
  have HW := Lib.hid hB0
  rw [hB0]
  clear hE hB0
  go_enter Tryd.func17, Tryd.ntmps17
  go_wp2_with fail
  obtain ⟨w1, hw1⟩ : ∃ x, wi.alloc (.cells #[.int .i64 t, .string (bstr l)] 28) = x := ⟨_, rfl⟩
  obtain ⟨ib0, hib0⟩ : ∃ i, wi.heap.size = i := ⟨_, rfl⟩
  have b0 : Blk w1 ib0 28 #[.int .i64 t, .string (bstr l)] := by rw [← hw1, ← hib0]; exact Blk.new _ _ _
  have k1 : Below wi.heap.size wi w1 := by rw [← hw1]; exact (Below.refl _ _).alloc (Nat.le_refl _) _
  have zb0 : w1.heap.size = ib0 + 1 := by rw [← hw1, ← hib0]; simp
  rw [hw1, hib0]
  have hR := hR.moved k1
  have bel := hthen bel k1
  clear k1
  clear hw1 hib0
  have b0c0 := b0.cell 0
  have b0c1 := b0.cell 1
  simp at b0c0 b0c1
  have b0lt := b0.lt
  try (go_wp2_with fail)
  refine (uenc_to (u := ⟨t, l⟩) HL.out HE.out hl _ hR).mono ?_
  rintro e w2 ⟨rfl, k2⟩
  clear b0c0 b0c1 b0lt
  have b0 := b0.below k2 b0.lt
  have hR := hR.moved k2
  have bel := hthen bel k2
  clear k2
  have b0c0 := b0.cell 0
  have b0c1 := b0.cell 1
  simp at b0c0 b0c1
  have b0lt := b0.lt
  go_wp2
  go_ret
  exact ⟨rfl, HW.out ▸ bel⟩

set_option maxRecDepth 100000 in
set_option maxHeartbeats 2000000 in
theorem uwrite_nil (u : Ub) (hE : ubE u = 0) (wi : World) (hR : RootsAt wi) :
    Calls Tryd.prog 17 #[.pointer none, .agg #[.int .i64 u.txg, .string (bstr u.load)]] wi fun e wj => e = .returned (.int .i64 1) ∧ Below wi.heap.size wi wj := by
  have hl : u.load.length ≤ 140737488351232 := by have := (ubE_ok hE).2.2; omega
  obtain ⟨t, l⟩ := u
  have HE := Lib.hid hE
  have bel : Below wi.heap.size wi wi := Below.refl _ _
  obtain ⟨B, hB0⟩ : ∃ B, wi.heap.size = B := ⟨_, rfl⟩
  have HW := Lib.hid hB0
  rw [hB0]
  clear hE hB0
  go_enter Tryd.func17, Tryd.ntmps17
  go_wp2_with fail
  obtain ⟨w1, hw1⟩ : ∃ x, wi.alloc (.cells #[.int .i64 t, .string (bstr l)] 28) = x := ⟨_, rfl⟩
  obtain ⟨ib0, hib0⟩ : ∃ i, wi.heap.size = i := ⟨_, rfl⟩
  have b0 : Blk w1 ib0 28 #[.int .i64 t, .string (bstr l)] := by rw [← hw1, ← hib0]; exact Blk.new _ _ _
  have k1 : Below wi.heap.size wi w1 := by rw [← hw1]; exact (Below.refl _ _).alloc (Nat.le_refl _) _
  have zb0 : w1.heap.size = ib0 + 1 := by rw [← hw1, ← hib0]; simp
  rw [hw1, hib0]
  have hR := hR.moved k1
  have bel := hthen bel k1
  clear k1
  clear hw1 hib0
  have b0c0 := b0.cell 0
  have b0c1 := b0.cell 1
  simp at b0c0 b0c1
  have b0lt := b0.lt
  try (go_wp2_with fail)
  refine (uenc_to (u := ⟨t, l⟩) rfl HE.out hl _ hR).mono ?_
  rintro e w2 ⟨rfl, k2⟩
  clear b0c0 b0c1 b0lt
  have b0 := b0.below k2 b0.lt
  have hR := hR.moved k2
  have bel := hthen bel k2
  clear k2
  have b0c0 := b0.cell 0
  have b0c1 := b0.cell 1
  simp at b0c0 b0c1
  have b0lt := b0.lt
  go_wp2
  go_ret
  exact ⟨rfl, HW.out ▸ bel⟩

theorem rem4 (k : Nat) : (k : Int).tmod 4 = ((k % 4 : Nat) : Int) := by rw [Int.tmod_eq_emod_of_nonneg (by omega)]; omega
theorem quo4 (k : Nat) : (k : Int).tdiv 4 = ((k / 4 : Nat) : Int) := by rw [Int.tdiv_eq_ediv_of_nonneg (by omega)]; omega
theorem best_no {b : Ub} {k : Nat} {s : List UInt8} (h : ¬ ((ubD s).2 = 0 ∧ (ubD s).1.txg % 4 = (k % 4 : Nat) ∧ b.txg < (ubD s).1.txg)) : bestS b k s = b := by unfold bestS; rw [if_neg h]
section
set_option maxRecDepth 100000 in
set_option maxHeartbeats 4000000 in
theorem ubestL (S : Nat → Prop) (g : Nat) (d : Dv) (hn : d.ws.length ≤ 100000) (hL : ∀ k, k < 8 → (ringD d k).length ≤ 140737488351232) (w wi : World) (hR : RootsAt wi) (h : Lv w wi S g d) :
    Calls Tryd.prog 20 #[.pointer (some ⟨g, 0, none⟩)] wi fun e wj => e = .returned (.tuple #[.agg #[.int .i64 (bestR d).1.txg, .string (bstr (bestR d).1.load)], .bool (bestR d).2]) ∧ Below wi.heap.size wi wj := by
  have bel : Below wi.heap.size wi wi := Below.refl _ _
  obtain ⟨f, hf⟩ : ∃ f, ringD d = f := ⟨_, rfl⟩
  have hrd : ∀ k, d.read ⟨((k / 4 : Nat) : Int), ((k % 4 : Nat) : Int)⟩ = (f k, (d.read ⟨((k / 4 : Nat) : Int), ((k % 4 : Nat) : Int)⟩).2) := fun k => by rw [← hf]; rfl
  have hbest : bestU d = bestG f 8 := by rw [← hf]; rfl
  rw [hf] at hL
  obtain ⟨BR, hBR⟩ : ∃ x, bestR d = x := ⟨_, rfl⟩
  rw [hBR]
  have hB2 : BR = if bestG f 8 = ⟨-1, []⟩ then (zUb, false) else (bestG f 8, true) := by rw [← hBR, ← hbest]; rfl
  obtain ⟨B, hB0⟩ : ∃ B, wi.heap.size = B := ⟨_, rfl⟩
  have HW := Lib.hid hB0
  rw [hB0]
  have HRD := Lib.hid hrd
  have HB := Lib.hid hB2
  have HLL := Lib.hid hL
  have LV0 := Lib.hid h
  have RT := Lib.hid hR
  clear hf hbest hBR hB2 hB0 hrd hL h hR
  go_enter Tryd.func20, Tryd.ntmps20
  go_wp2_with fail
  obtain ⟨w1, hw1⟩ : ∃ x, wi.alloc (.cells #[.int .i64 0, .string ⟨#[]⟩] 28) = x := ⟨_, rfl⟩
  obtain ⟨ir0, hir0⟩ : ∃ i, wi.heap.size = i := ⟨_, rfl⟩
  have r0 : Blk w1 ir0 28 #[.int .i64 0, .string ⟨#[]⟩] := by rw [← hw1, ← hir0]; exact Blk.new _ _ _
  have k1 : Below wi.heap.size wi w1 := by rw [← hw1]; exact (Below.refl _ _).alloc (Nat.le_refl _) _
  have zr0 : w1.heap.size = ir0 + 1 := by rw [← hw1, ← hir0]; simp
  rw [hw1, hir0]
  have or0 : wi.heap.size ≤ ir0 := by rw [← hir0]; exact bel.size
  have bel := hthen bel k1
  clear k1
  clear hw1 hir0
  have r0c0 := r0.cell 0
  have r0c1 := r0.cell 1
  simp at r0c0 r0c1
  have r0lt := r0.lt
  try (go_wp2_with fail)
  clear r0c0 r0c1 r0lt
  obtain ⟨w2, hw2⟩ : ∃ x, w1.alloc (.cells #[.int .i64 (-1), .string ⟨#[]⟩] 28) = x := ⟨_, rfl⟩
  obtain ⟨ibn, hibn⟩ : ∃ i, w1.heap.size = i := ⟨_, rfl⟩
  have bn : Blk w2 ibn 28 #[.int .i64 (-1), .string ⟨#[]⟩] := by rw [← hw2, ← hibn]; exact Blk.new _ _ _
  have k2 : Below w1.heap.size w1 w2 := by rw [← hw2]; exact (Below.refl _ _).alloc (Nat.le_refl _) _
  have zbn : w2.heap.size = ibn + 1 := by rw [← hw2, ← hibn]; simp
  rw [hw2, ← zr0, hibn]
  have obn : wi.heap.size ≤ ibn := by rw [← hibn]; exact bel.size
  have nr0bn : ir0 ≠ ibn := by have := r0.lt; omega
  have r0 := r0.below k2 r0.lt
  have bel := hthen bel k2
  clear k2
  clear hw2 hibn
  have r0c0 := r0.cell 0
  have r0c1 := r0.cell 1
  simp at r0c0 r0c1
  have r0lt := r0.lt
  have bnc0 := bn.cell 0
  have bnc1 := bn.cell 1
  simp at bnc0 bnc1
  have bnlt := bn.lt
  try (go_wp2_with fail)
  clear r0c0 r0c1 r0lt bnc0 bnc1 bnlt
  obtain ⟨w3, hw3⟩ : ∃ x, w2.alloc (.cells #[.int .i64 (-1), .string ⟨#[]⟩] 28) = x := ⟨_, rfl⟩
  obtain ⟨ibb, hibb⟩ : ∃ i, w2.heap.size = i := ⟨_, rfl⟩
  have bb : Blk w3 ibb 28 #[.int .i64 (-1), .string ⟨#[]⟩] := by rw [← hw3, ← hibb]; exact Blk.new _ _ _
  have k3 : Below w2.heap.size w2 w3 := by rw [← hw3]; exact (Below.refl _ _).alloc (Nat.le_refl _) _
  have zbb : w3.heap.size = ibb + 1 := by rw [← hw3, ← hibb]; simp
  rw [hw3, ← zbn, hibb]
  have obb : wi.heap.size ≤ ibb := by rw [← hibb]; exact bel.size
  have nr0bb : ir0 ≠ ibb := by have := r0.lt; omega
  have nbnbb : ibn ≠ ibb := by have := bn.lt; omega
  have r0 := r0.below k3 r0.lt
  have bn := bn.below k3 bn.lt
  have bel := hthen bel k3
  clear k3
  clear hw3 hibb
  have r0c0 := r0.cell 0
  have r0c1 := r0.cell 1
  simp at r0c0 r0c1
  have r0lt := r0.lt
  have bnc0 := bn.cell 0
  have bnc1 := bn.cell 1
  simp at bnc0 bnc1
  have bnlt := bn.lt
  have bbc0 := bb.cell 0
  have bbc1 := bb.cell 1
  simp at bbc0 bbc1
  have bblt := bb.lt
  try (go_wp2_with fail)
  clear r0c0 r0c1 r0lt bnc0 bnc1 bnlt bbc0 bbc1 bblt
  clear zr0 zbn zbb
  go_loopw [14] (fun i wr => ∃ k : Nat, k ≤ 8 ∧ i = .int .i64 k ∧ Below wi.heap.size wi wr ∧ Blk wr ir0 28 #[.int .i64 0, .string ⟨#[]⟩] ∧ Blk wr ibn 28 #[.int .i64 (-1), .string ⟨#[]⟩] ∧ Blk wr ibb 28 #[.int .i64 (bestG f k).txg, .string (bstr (bestG f k).load)]) (fun i _ => 8 - (intOf i).toNat)
  case atStart => exact ⟨0, by omega, rfl, bel, r0, bn, bb⟩
  case round =>
    clear bel r0 bn bb
    obtain ⟨k, hk, rfl, bel, r0, bn, bb⟩ := hrel
    obtain ⟨⟨bt, bl⟩, hbk⟩ : ∃ b, bestG f k = b := ⟨_, rfl⟩
    rw [hbk] at bb
    simp only at bb
    by_cases hlt : k < 8
    · have q1 : decide ((k : Int) < 8) = true := decide_eq_true (by omega)
      have qr := rem4 k
      have qq := quo4 k
      have hnx : bestG f (k + 1) = bestS ⟨bt, bl⟩ k (f k) := by rw [bestG, hbk]
      have hrk := HRD.out k
      have hfl := HLL.out k hlt
      obtain ⟨fk, hfk⟩ : ∃ x, f k = x := ⟨_, rfl⟩
      obtain ⟨er, her⟩ : ∃ x, (d.read ⟨((k / 4 : Nat) : Int), ((k % 4 : Nat) : Int)⟩).2 = x := ⟨_, rfl⟩
      rw [hfk, her] at hrk
      rw [hfk] at hnx hfl
      obtain ⟨⟨⟨ut, ul⟩, ue⟩, hud⟩ : ∃ x, ubD fk = x := ⟨_, rfl⟩
      obtain ⟨a, ha⟩ : ∃ a, k / 4 = a := ⟨_, rfl⟩
      obtain ⟨r, hr⟩ : ∃ a, k % 4 = a := ⟨_, rfl⟩
      rw [ha, hr] at hrk
      rw [ha] at qq
      rw [hr] at qr
      have HNX := Lib.hid hnx
      have HRK := Lib.hid hrk
      have HUD := Lib.hid hud
      have HRR := Lib.hid hr
      have wa : wrap64 (a : Int) = a := IntWalk.wrap64_in _ ⟨by omega, by omega⟩
      have lv := LV0.out.below bel
      have hR := RT.out.moved bel
      clear hnx hrk hfk her hbk ha hr hud
      have r0c0 := r0.cell 0
      have r0c1 := r0.cell 1
      simp at r0c0 r0c1
      have r0lt := r0.lt
      have bnc0 := bn.cell 0
      have bnc1 := bn.cell 1
      simp at bnc0 bnc1
      have bnlt := bn.lt
      have bbc0 := bb.cell 0
      have bbc1 := bb.cell 1
      simp at bbc0 bbc1
      have bblt := bb.lt
      go_wp2_with fail
      clear r0c0 r0c1 r0lt bnc0 bnc1 bnlt bbc0 bbc1 bblt
      obtain ⟨w21, hw21⟩ : ∃ x, wr.alloc (.cells #[.int .i64 a, .int .i64 r] 51) = x := ⟨_, rfl⟩
      obtain ⟨ibl0, hibl0⟩ : ∃ i, wr.heap.size = i := ⟨_, rfl⟩
      have bl0 : Blk w21 ibl0 51 #[.int .i64 a, .int .i64 r] := by rw [← hw21, ← hibl0]; exact Blk.new _ _ _
      have k21 : Below wr.heap.size wr w21 := by rw [← hw21]; exact (Below.refl _ _).alloc (Nat.le_refl _) _
      have zbl0 : w21.heap.size = ibl0 + 1 := by rw [← hw21, ← hibl0]; simp
      rw [hw21, hibl0]
      have obl0 : wi.heap.size ≤ ibl0 := by rw [← hibl0]; exact bel.size
      have nr0bl0 : ir0 ≠ ibl0 := by have := r0.lt; omega
      have nbnbl0 : ibn ≠ ibl0 := by have := bn.lt; omega
      have nbbbl0 : ibb ≠ ibl0 := by have := bb.lt; omega
      have r0 := r0.below k21 r0.lt
      have bn := bn.below k21 bn.lt
      have bb := bb.below k21 bb.lt
      have lv := lv.below k21
      have hR := hR.moved k21
      have bel := hthen bel k21
      clear k21
      clear hw21 hibl0
      have r0c0 := r0.cell 0
      have r0c1 := r0.cell 1
      simp at r0c0 r0c1
      have r0lt := r0.lt
      have bnc0 := bn.cell 0
      have bnc1 := bn.cell 1
      simp at bnc0 bnc1
      have bnlt := bn.lt
      have bbc0 := bb.cell 0
      have bbc1 := bb.cell 1
      simp at bbc0 bbc1
      have bblt := bb.lt
      have bl0c0 := bl0.cell 0
      have bl0c1 := bl0.cell 1
      simp at bl0c0 bl0c1
      have bl0lt := bl0.lt
      try (go_wp2_with fail)
      refine (readL S g d ⟨a, r⟩ HRK.out hn w _ lv).mono ?_
      rintro e w22 ⟨rfl, k22⟩
      clear r0c0 r0c1 r0lt bnc0 bnc1 bnlt bbc0 bbc1 bblt bl0c0 bl0c1 bl0lt
      have r0 := r0.below k22 r0.lt
      have bn := bn.below k22 bn.lt
      have bb := bb.below k22 bb.lt
      have bl0 := bl0.below k22 bl0.lt
      have lv := lv.below k22
      have hR := hR.moved k22
      have bel := hthen bel k22
      clear k22
      have r0c0 := r0.cell 0
      have r0c1 := r0.cell 1
      simp at r0c0 r0c1
      have r0lt := r0.lt
      have bnc0 := bn.cell 0
      have bnc1 := bn.cell 1
      simp at bnc0 bnc1
      have bnlt := bn.lt
      have bbc0 := bb.cell 0
      have bbc1 := bb.cell 1
      simp at bbc0 bbc1
      have bblt := bb.lt
      have bl0c0 := bl0.cell 0
      have bl0c1 := bl0.cell 1
      simp at bl0c0 bl0c1
      have bl0lt := bl0.lt
      go_wp2_with fail
      refine (udec_to HUD.out hfl _ hR).mono ?_
      rintro e w23 ⟨rfl, k23⟩
      clear r0c0 r0c1 r0lt bnc0 bnc1 bnlt bbc0 bbc1 bblt bl0c0 bl0c1 bl0lt
      have r0 := r0.below k23 r0.lt
      have bn := bn.below k23 bn.lt
      have bb := bb.below k23 bb.lt
      have bl0 := bl0.below k23 bl0.lt
      have lv := lv.below k23
      have hR := hR.moved k23
      have bel := hthen bel k23
      clear k23
      have r0c0 := r0.cell 0
      have r0c1 := r0.cell 1
      simp at r0c0 r0c1
      have r0lt := r0.lt
      have bnc0 := bn.cell 0
      have bnc1 := bn.cell 1
      simp at bnc0 bnc1
      have bnlt := bn.lt
      have bbc0 := bb.cell 0
      have bbc1 := bb.cell 1
      simp at bbc0 bbc1
      have bblt := bb.lt
      have bl0c0 := bl0.cell 0
      have bl0c1 := bl0.cell 1
      simp at bl0c0 bl0c1
      have bl0lt := bl0.lt
      go_upto_region 9 with fail
      clear r0c0 r0c1 r0lt bnc0 bnc1 bnlt bbc0 bbc1 bblt bl0c0 bl0c1 bl0lt
      obtain ⟨w24, hw24⟩ : ∃ x, w23.alloc (.cells #[.int .i64 ut, .string (bstr ul)] 28) = x := ⟨_, rfl⟩
      obtain ⟨ibu, hibu⟩ : ∃ i, w23.heap.size = i := ⟨_, rfl⟩
      have bu : Blk w24 ibu 28 #[.int .i64 ut, .string (bstr ul)] := by rw [← hw24, ← hibu]; exact Blk.new _ _ _
      have k24 : Below w23.heap.size w23 w24 := by rw [← hw24]; exact (Below.refl _ _).alloc (Nat.le_refl _) _
      have zbu : w24.heap.size = ibu + 1 := by rw [← hw24, ← hibu]; simp
      rw [hw24, hibu]
      have obu : wi.heap.size ≤ ibu := by rw [← hibu]; exact bel.size
      have nr0bu : ir0 ≠ ibu := by have := r0.lt; omega
      have nbnbu : ibn ≠ ibu := by have := bn.lt; omega
      have nbbbu : ibb ≠ ibu := by have := bb.lt; omega
      have nbl0bu : ibl0 ≠ ibu := by have := bl0.lt; omega
      have r0 := r0.below k24 r0.lt
      have bn := bn.below k24 bn.lt
      have bb := bb.below k24 bb.lt
      have bl0 := bl0.below k24 bl0.lt
      have lv := lv.below k24
      have hR := hR.moved k24
      have bel := hthen bel k24
      clear k24
      clear hw24 hibu
      have r0c0 := r0.cell 0
      have r0c1 := r0.cell 1
      simp at r0c0 r0c1
      have r0lt := r0.lt
      have bnc0 := bn.cell 0
      have bnc1 := bn.cell 1
      simp at bnc0 bnc1
      have bnlt := bn.lt
      have bbc0 := bb.cell 0
      have bbc1 := bb.cell 1
      simp at bbc0 bbc1
      have bblt := bb.lt
      have bl0c0 := bl0.cell 0
      have bl0c1 := bl0.cell 1
      simp at bl0c0 bl0c1
      have bl0lt := bl0.lt
      have buc0 := bu.cell 0
      have buc1 := bu.cell 1
      simp at buc0 buc1
      have bult := bu.lt
      by_cases he : ue = 0
      · obtain ⟨hE, _⟩ := ub_enc_dec (s := fk) (u := ⟨ut, ul⟩) (by rw [← he]; exact HUD.out)
        have hpos := (ubE_ok hE).1
        simp only at hpos
        have hm : ut.tmod 4 = ut % 4 := Int.tmod_eq_emod_of_nonneg hpos
        have qe : (ue == 0) = true := by simp [he]
        clear hE
        by_cases h1 : ut % 4 = (r : Int)
        · by_cases h2 : bt < ut
          · have qm : (ut % 4 == (r : Int)) = true := by simp [h1]
            have qt : decide (ut > bt) = true := decide_eq_true h2
            have HYE : Hid (bestS ⟨bt, bl⟩ k fk = ⟨ut, ul⟩) := Lib.hid (by unfold bestS; rw [HUD.out]; simp only; rw [HRR.out, if_pos ⟨he, h1, h2⟩])
            have bf0 := bb.frozen 0
            have bf1 := bb.frozen 1
            clear he h1 h2
            go_wp2
            clear r0c0 r0c1 r0lt bnc0 bnc1 bnlt bbc0 bbc1 bblt bl0c0 bl0c1 bl0lt buc0 buc1 bult
            have r0 := (r0.far (p := ⟨ibb, 0, none⟩) nr0bb (.int .i64 ut)).far (p := ⟨ibb, 1, none⟩) nr0bb (.string (bstr ul))
            have bn := (bn.far (p := ⟨ibb, 0, none⟩) nbnbb (.int .i64 ut)).far (p := ⟨ibb, 1, none⟩) nbnbb (.string (bstr ul))
            have bb := bb.put2 (.int .i64 ut) (.string (bstr ul))
            have bel := below_at (below_at bel obb 0 (.int .i64 ut)) obb 1 (.string (bstr ul))
            go_roundw
            case rel => exact ⟨k + 1, by omega, by go_num, bel, r0, bn, by rw [HNX.out, HYE.out]; exact bb⟩
            case measure => simp [intOf]; omega
          · have qm : (ut % 4 == (r : Int)) = true := by simp [h1]
            have qt : decide (ut > bt) = false := decide_eq_false h2
            have HNO : Hid (bestS ⟨bt, bl⟩ k fk = ⟨bt, bl⟩) := Lib.hid (best_no (by rw [HUD.out]; simp only; exact fun e => h2 e.2.2))
            go_wp2
            go_roundw
            case rel => exact ⟨k + 1, by omega, by go_num, bel, r0, bn, by rw [HNX.out, HNO.out]; exact bb⟩
            case measure => simp [intOf]; omega
        · have qm : (ut % 4 == (r : Int)) = false := beq_eq_false_iff_ne.2 h1
          have HNO : Hid (bestS ⟨bt, bl⟩ k fk = ⟨bt, bl⟩) := Lib.hid (best_no (by rw [HUD.out]; simp only; rw [HRR.out]; exact fun e => h1 e.2.1))
          go_wp2
          go_roundw
          case rel => exact ⟨k + 1, by omega, by go_num, bel, r0, bn, by rw [HNX.out, HNO.out]; exact bb⟩
          case measure => simp [intOf]; omega
      · have qe : (ue == 0) = false := beq_eq_false_iff_ne.2 he
        have HNO : Hid (bestS ⟨bt, bl⟩ k fk = ⟨bt, bl⟩) := Lib.hid (best_no (by rw [HUD.out]; simp only; exact fun e => he e.1))
        go_wp2
        go_roundw
        case rel => exact ⟨k + 1, by omega, by go_num, bel, r0, bn, by rw [HNX.out, HNO.out]; exact bb⟩
        case measure => simp [intOf]; omega

    · obtain rfl : k = 8 := by omega
      have q1 : decide (((8 : Nat) : Int) < 8) = false := by decide
      have hB := HB.out
      rw [hbk] at hB
      clear hbk
      by_cases h1 : bt = -1
      · by_cases h2 : bl = []
        · have HBB : Hid (BR = (zUb, false)) := Lib.hid (by rw [hB, if_pos (by rw [h1, h2])])
          clear hB
          subst h1
          subst h2
          have r0c0 := r0.cell 0
          have r0c1 := r0.cell 1
          simp at r0c0 r0c1
          have r0lt := r0.lt
          have bnc0 := bn.cell 0
          have bnc1 := bn.cell 1
          simp at bnc0 bnc1
          have bnlt := bn.lt
          have bbc0 := bb.cell 0
          have bbc1 := bb.cell 1
          simp at bbc0 bbc1
          have bblt := bb.lt
          have rf0 := r0.frozen 0
          have rf1 := r0.frozen 1
          go_wp2
          have xx := r0.put2 (.int .i64 0) (.string ⟨#[]⟩)
          have xx0 := xx.cell 0
          have xx1 := xx.cell 1
          simp at xx0 xx1
          refine bodyPost_ret (v := .tuple #[.agg #[.int .i64 0, .string ⟨#[]⟩], .bool false]) ?h1 rfl ?h2
          case h1 => simp [results, Tryd.results20, go_sem, xx0, xx1]
          case h2 => exact ⟨by rw [HBB.out] <;> rfl, HW.out ▸ (below_at (below_at bel or0 _ _) or0 _ _)⟩
        · subst h1
          have HBB : Hid (BR = (⟨(-1), bl⟩, true)) := Lib.hid (by rw [hB, if_neg (by intro e; exact h2 (congrArg Ub.load e))])
          clear hB
          have r0c0 := r0.cell 0
          have r0c1 := r0.cell 1
          simp at r0c0 r0c1
          have r0lt := r0.lt
          have bnc0 := bn.cell 0
          have bnc1 := bn.cell 1
          simp at bnc0 bnc1
          have bnlt := bn.lt
          have bbc0 := bb.cell 0
          have bbc1 := bb.cell 1
          simp at bbc0 bbc1
          have bblt := bb.lt
          have rf0 := r0.frozen 0
          have rf1 := r0.frozen 1
          go_wp2
          have xx := r0.put2 (.int .i64 (-1)) (.string (bstr bl))
          have xx0 := xx.cell 0
          have xx1 := xx.cell 1
          simp at xx0 xx1
          refine bodyPost_ret (v := .tuple #[.agg #[.int .i64 (-1), .string (bstr bl)], .bool true]) ?h1 rfl ?h2
          case h1 => simp [results, Tryd.results20, go_sem, xx0, xx1]
          case h2 => exact ⟨by rw [HBB.out] <;> rfl, HW.out ▸ (below_at (below_at bel or0 _ _) or0 _ _)⟩
      · have HBB : Hid (BR = (⟨bt, bl⟩, true)) := Lib.hid (by rw [hB, if_neg (by intro e; exact h1 (congrArg Ub.txg e))])
        clear hB
        have r0c0 := r0.cell 0
        have r0c1 := r0.cell 1
        simp at r0c0 r0c1
        have r0lt := r0.lt
        have bnc0 := bn.cell 0
        have bnc1 := bn.cell 1
        simp at bnc0 bnc1
        have bnlt := bn.lt
        have bbc0 := bb.cell 0
        have bbc1 := bb.cell 1
        simp at bbc0 bbc1
        have bblt := bb.lt
        have rf0 := r0.frozen 0
        have rf1 := r0.frozen 1
        go_wp2
        have xx := r0.put2 (.int .i64 bt) (.string (bstr bl))
        have xx0 := xx.cell 0
        have xx1 := xx.cell 1
        simp at xx0 xx1
        refine bodyPost_ret (v := .tuple #[.agg #[.int .i64 bt, .string (bstr bl)], .bool true]) ?h1 rfl ?h2
        case h1 => simp [results, Tryd.results20, go_sem, xx0, xx1]
        case h2 => exact ⟨by rw [HBB.out] <;> rfl, HW.out ▸ (below_at (below_at bel or0 _ _) or0 _ _)⟩
end
end Go.Proofs.YtcamcjcmhjldpaaDoor
