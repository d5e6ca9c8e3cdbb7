/- Split of the reference 09: contract. -/
import Derived.Test.YtiodeeliidhbgaaNdW
namespace Go.Proofs.Ytiodeeliidhbgaa
open Go Go.RowKit
set_option linter.unusedSimpArgs false
set_option linter.unnecessarySimpa false
set_option linter.unusedVariables false

theorem SsAt.take {w : World} {A : Option Addr} {n c : Nat} {l : List (List UInt8)} (h : SsAt w (.slice A n c) l) {m : Nat} (hm : m ≤ l.length) (c' : Nat) : SsAt w (.slice A m c') (l.take m) := by
  obtain ⟨A', c0, e, h1⟩ := h
  cases e
  have e : (l.take m).length = m := by rw [List.length_take]; omega
  refine ⟨A, c', by rw [e], fun j hj => ?_⟩
  rw [e] at hj
  obtain ⟨ad, h2, h3⟩ := h1 j (by omega)
  exact ⟨ad, h2, by rw [h3]; simp [List.getD_eq_getElem?_getD, List.getElem?_take_of_lt hj]⟩
theorem SsAt.drop {w : World} {ad : Addr} {n c : Nat} {l : List (List UInt8)} (h : SsAt w (.slice (some ad) n c) l) {m : Nat} (hm : m ≤ l.length) (c' : Nat) : SsAt w (.slice (some (ad.add m)) (l.length - m) c') (l.drop m) := by
  obtain ⟨A', c0, e, h1⟩ := h
  cases e
  have e : (l.drop m).length = l.length - m := by rw [List.length_drop]
  refine ⟨_, c', by rw [e], fun j hj => ⟨_, rfl, ?_⟩⟩
  rw [e] at hj
  obtain ⟨ad', h2, h3⟩ := h1 (m + j) (by omega)
  cases h2
  rw [show (ad.add m).add j = ad.add (m + j) by unfold Addr.add; (repeat' split) <;> simp_all <;> omega, h3]
  simp [List.getD_eq_getElem?_getD]

set_option maxRecDepth 100000 in
set_option maxHeartbeats 8000000 in
theorem rsplit_any (leaf : Bool) (ks vs : List (List UInt8)) (A C : Option Addr) (c d : Nat) (w : World) (h : NdV w (.agg #[.bool leaf, .slice A ks.length c, .slice C vs.length d]) ⟨leaf, ks, vs⟩) (hk : ks.length ≤ 1000000) (hv : vs.length ≤ 1000000) (hc : ks.length ≤ c) (hd : vs.length ≤ d) :
    Calls Try.prog 26 #[.agg #[.bool leaf, .slice A ks.length c, .slice C vs.length d]] w fun e w' => ∃ ua ub, e = .returned (.tuple #[ua, ub, .bool (halvesN ⟨leaf, ks, vs⟩)]) ∧ NdV w' ua (firstN ⟨leaf, ks, vs⟩) ∧ NdV w' ub (secondN ⟨leaf, ks, vs⟩) ∧ Below w.heap.size w w' := by
  have n00 := h
  have n0 := n00
  have bel : Below w.heap.size w w := Below.refl _ _
  clear h
  obtain ⟨H, hH⟩ : ∃ H, halvesN ⟨leaf, ks, vs⟩ = H := ⟨_, rfl⟩
  obtain ⟨FN, hFN⟩ : ∃ H, firstN ⟨leaf, ks, vs⟩ = H := ⟨_, rfl⟩
  obtain ⟨SN, hSN⟩ : ∃ H, secondN ⟨leaf, ks, vs⟩ = H := ⟨_, rfl⟩
  rw [hH, hFN, hSN]
  cases hm : mayB ⟨leaf, ks, vs⟩
  · have hh : halvesN ⟨leaf, ks, vs⟩ = false := by unfold halvesN; rw [hm]; rfl
    have HH : Hid (H = false) := Lib.hid (by rw [← hH, hh])
    have HF : Hid (FN = emptyN) := Lib.hid (by rw [← hFN]; unfold firstN; rw [hh]; rfl)
    have HSN : Hid (SN = emptyN) := Lib.hid (by rw [← hSN]; unfold secondN; rw [hh]; rfl)
    have HM := Lib.hid hm
    clear hm hH hFN hSN hh
    go_enter Try.func26, Try.ntmps26
    go_wp2_with fail
    obtain ⟨w1, hw1⟩ : ∃ x, w.alloc (.cells #[.bool leaf, .slice A ks.length c, .slice C vs.length d] 24) = x := ⟨_, rfl⟩
    obtain ⟨ib0, hib0⟩ : ∃ i, w.heap.size = i := ⟨_, rfl⟩
    have b0 : Blk w1 ib0 24 #[.bool leaf, .slice A ks.length c, .slice C vs.length d] := by rw [← hw1, ← hib0]; exact Blk.new _ _ _
    have k1 : Below w.heap.size w w1 := by rw [← hw1]; exact (Below.refl _ _).alloc (Nat.le_refl _) _
    have zb0 : w1.heap.size = ib0 + 1 := by rw [← hw1, ← hib0]; simp
    rw [hw1, hib0]
    have ob0 : w.heap.size ≤ ib0 := by rw [← hib0]; exact bel.size
    have n0 := n0.below k1
    have bel := hthen bel k1
    clear k1
    clear hw1 hib0
    have b0c0 := b0.cell 0
    have b0c1 := b0.cell 1
    have b0c2 := b0.cell 2
    simp at b0c0 b0c1 b0c2
    have b0lt := b0.lt
    try (go_wp2_with fail)
    clear b0c0 b0c1 b0c2 b0lt
    obtain ⟨w2, hw2⟩ : ∃ x, w1.alloc (.cells #[.bool false, .slice none 0 0, .slice none 0 0] 24) = x := ⟨_, rfl⟩
    obtain ⟨ir0, hir0⟩ : ∃ i, w1.heap.size = i := ⟨_, rfl⟩
    have r0 : Blk w2 ir0 24 #[.bool false, .slice none 0 0, .slice none 0 0] := by rw [← hw2, ← hir0]; exact Blk.new _ _ _
    have k2 : Below w1.heap.size w1 w2 := by rw [← hw2]; exact (Below.refl _ _).alloc (Nat.le_refl _) _
    have zr0 : w2.heap.size = ir0 + 1 := by rw [← hw2, ← hir0]; simp
    rw [hw2, ← zb0, hir0]
    have or0 : w.heap.size ≤ ir0 := by rw [← hir0]; exact bel.size
    have nb0r0 : ib0 ≠ ir0 := by have := b0.lt; omega
    have b0 := b0.below k2 b0.lt
    have n0 := n0.below k2
    have bel := hthen bel k2
    clear k2
    clear hw2 hir0
    have b0c0 := b0.cell 0
    have b0c1 := b0.cell 1
    have b0c2 := b0.cell 2
    simp at b0c0 b0c1 b0c2
    have b0lt := b0.lt
    have r0c0 := r0.cell 0
    have r0c1 := r0.cell 1
    have r0c2 := r0.cell 2
    simp at r0c0 r0c1 r0c2
    have r0lt := r0.lt
    try (go_wp2_with fail)
    clear b0c0 b0c1 b0c2 b0lt r0c0 r0c1 r0c2 r0lt
    obtain ⟨w3, hw3⟩ : ∃ x, w2.alloc (.cells #[.bool false, .slice none 0 0, .slice none 0 0] 24) = x := ⟨_, rfl⟩
    obtain ⟨ir1, hir1⟩ : ∃ i, w2.heap.size = i := ⟨_, rfl⟩
    have r1 : Blk w3 ir1 24 #[.bool false, .slice none 0 0, .slice none 0 0] := by rw [← hw3, ← hir1]; exact Blk.new _ _ _
    have k3 : Below w2.heap.size w2 w3 := by rw [← hw3]; exact (Below.refl _ _).alloc (Nat.le_refl _) _
    have zr1 : w3.heap.size = ir1 + 1 := by rw [← hw3, ← hir1]; simp
    rw [hw3, ← zr0, hir1]
    have or1 : w.heap.size ≤ ir1 := by rw [← hir1]; exact bel.size
    have nb0r1 : ib0 ≠ ir1 := by have := b0.lt; omega
    have nr0r1 : ir0 ≠ ir1 := by have := r0.lt; omega
    have b0 := b0.below k3 b0.lt
    have r0 := r0.below k3 r0.lt
    have n0 := n0.below k3
    have bel := hthen bel k3
    clear k3
    clear hw3 hir1
    have b0c0 := b0.cell 0
    have b0c1 := b0.cell 1
    have b0c2 := b0.cell 2
    simp at b0c0 b0c1 b0c2
    have b0lt := b0.lt
    have r0c0 := r0.cell 0
    have r0c1 := r0.cell 1
    have r0c2 := r0.cell 2
    simp at r0c0 r0c1 r0c2
    have r0lt := r0.lt
    have r1c0 := r1.cell 0
    have r1c1 := r1.cell 1
    have r1c2 := r1.cell 2
    simp at r1c0 r1c1 r1c2
    have r1lt := r1.lt
    try (go_wp2_with fail)
    refine (rmay_to HM.out _ _ n0 hk hv).mono ?_
    rintro e w4 ⟨rfl, k4⟩
    clear b0c0 b0c1 b0c2 b0lt r0c0 r0c1 r0c2 r0lt r1c0 r1c1 r1c2 r1lt
    have b0 := b0.below k4 b0.lt
    have r0 := r0.below k4 r0.lt
    have r1 := r1.below k4 r1.lt
    have n0 := n0.below k4
    have bel := hthen bel k4
    clear k4
    have b0c0 := b0.cell 0
    have b0c1 := b0.cell 1
    have b0c2 := b0.cell 2
    simp at b0c0 b0c1 b0c2
    have b0lt := b0.lt
    have r0c0 := r0.cell 0
    have r0c1 := r0.cell 1
    have r0c2 := r0.cell 2
    simp at r0c0 r0c1 r0c2
    have r0lt := r0.lt
    have r1c0 := r1.cell 0
    have r1c1 := r1.cell 1
    have r1c2 := r1.cell 2
    simp at r1c0 r1c1 r1c2
    have r1lt := r1.lt
    have r0f0 := r0.frozen 0
    have r0f1 := r0.frozen 1
    have r0f2 := r0.frozen 2
    have r1f0 := r1.frozen 0
    have r1f1 := r1.frozen 1
    have r1f2 := r1.frozen 2
    go_wp2
    have xr := (((r0.put3 (.bool false) (.slice none 0 0) (.slice none 0 0)).far (p := ⟨ir1, 0, none⟩) nr0r1 (.bool false)).far (p := ⟨ir1, 1, none⟩) nr0r1 (.slice none 0 0)).far (p := ⟨ir1, 2, none⟩) nr0r1 (.slice none 0 0)
    have yr := (((r1.far (p := ⟨ir0, 0, none⟩) (Ne.symm nr0r1) (.bool false)).far (p := ⟨ir0, 1, none⟩) (Ne.symm nr0r1) (.slice none 0 0)).far (p := ⟨ir0, 2, none⟩) (Ne.symm nr0r1) (.slice none 0 0)).put3 (.bool false) (.slice none 0 0) (.slice none 0 0)
    have bel9 := below_at (below_at (below_at (below_at (below_at (below_at bel or0 0 (.bool false)) or0 1 (.slice none 0 0)) or0 2 (.slice none 0 0)) or1 0 (.bool false)) or1 1 (.slice none 0 0)) or1 2 (.slice none 0 0)
    have t0 := xr.cell 0
    have t1 := xr.cell 1
    have t2 := xr.cell 2
    have t3 := yr.cell 0
    have t4 := yr.cell 1
    have t5 := yr.cell 2
    simp at t0 t1 t2 t3 t4 t5
    refine bodyPost_ret (v := .tuple #[.agg #[.bool false, .slice none 0 0, .slice none 0 0], .agg #[.bool false, .slice none 0 0, .slice none 0 0], .bool false]) ?h1 rfl ?h2
    case h1 => simp [results, Try.results26, go_sem, t0, t1, t2, t3, t4, t5]
    case h2 => rw [HH.out, HF.out, HSN.out]; exact ⟨_, _, rfl, nd_empty _, nd_empty _, bel9⟩
  · by_cases hl : ks.length < 2
    · have q0 : decide ((ks.length : Int) < 2) = true := decide_eq_true (by omega)
      have hh : halvesN ⟨leaf, ks, vs⟩ = false := by unfold halvesN; rw [hm]; simp; omega
      have HH : Hid (H = false) := Lib.hid (by rw [← hH, hh])
      have HF : Hid (FN = emptyN) := Lib.hid (by rw [← hFN]; unfold firstN; rw [hh]; rfl)
      have HSN : Hid (SN = emptyN) := Lib.hid (by rw [← hSN]; unfold secondN; rw [hh]; rfl)
      have HM := Lib.hid hm
      clear hm hH hFN hSN hh
      go_enter Try.func26, Try.ntmps26
      go_wp2_with fail
      obtain ⟨w1, hw1⟩ : ∃ x, w.alloc (.cells #[.bool leaf, .slice A ks.length c, .slice C vs.length d] 24) = x := ⟨_, rfl⟩
      obtain ⟨ib0, hib0⟩ : ∃ i, w.heap.size = i := ⟨_, rfl⟩
      have b0 : Blk w1 ib0 24 #[.bool leaf, .slice A ks.length c, .slice C vs.length d] := by rw [← hw1, ← hib0]; exact Blk.new _ _ _
      have k1 : Below w.heap.size w w1 := by rw [← hw1]; exact (Below.refl _ _).alloc (Nat.le_refl _) _
      have zb0 : w1.heap.size = ib0 + 1 := by rw [← hw1, ← hib0]; simp
      rw [hw1, hib0]
      have ob0 : w.heap.size ≤ ib0 := by rw [← hib0]; exact bel.size
      have n0 := n0.below k1
      have bel := hthen bel k1
      clear k1
      clear hw1 hib0
      have b0c0 := b0.cell 0
      have b0c1 := b0.cell 1
      have b0c2 := b0.cell 2
      simp at b0c0 b0c1 b0c2
      have b0lt := b0.lt
      try (go_wp2_with fail)
      clear b0c0 b0c1 b0c2 b0lt
      obtain ⟨w2, hw2⟩ : ∃ x, w1.alloc (.cells #[.bool false, .slice none 0 0, .slice none 0 0] 24) = x := ⟨_, rfl⟩
      obtain ⟨ir0, hir0⟩ : ∃ i, w1.heap.size = i := ⟨_, rfl⟩
      have r0 : Blk w2 ir0 24 #[.bool false, .slice none 0 0, .slice none 0 0] := by rw [← hw2, ← hir0]; exact Blk.new _ _ _
      have k2 : Below w1.heap.size w1 w2 := by rw [← hw2]; exact (Below.refl _ _).alloc (Nat.le_refl _) _
      have zr0 : w2.heap.size = ir0 + 1 := by rw [← hw2, ← hir0]; simp
      rw [hw2, ← zb0, hir0]
      have or0 : w.heap.size ≤ ir0 := by rw [← hir0]; exact bel.size
      have nb0r0 : ib0 ≠ ir0 := by have := b0.lt; omega
      have b0 := b0.below k2 b0.lt
      have n0 := n0.below k2
      have bel := hthen bel k2
      clear k2
      clear hw2 hir0
      have b0c0 := b0.cell 0
      have b0c1 := b0.cell 1
      have b0c2 := b0.cell 2
      simp at b0c0 b0c1 b0c2
      have b0lt := b0.lt
      have r0c0 := r0.cell 0
      have r0c1 := r0.cell 1
      have r0c2 := r0.cell 2
      simp at r0c0 r0c1 r0c2
      have r0lt := r0.lt
      try (go_wp2_with fail)
      clear b0c0 b0c1 b0c2 b0lt r0c0 r0c1 r0c2 r0lt
      obtain ⟨w3, hw3⟩ : ∃ x, w2.alloc (.cells #[.bool false, .slice none 0 0, .slice none 0 0] 24) = x := ⟨_, rfl⟩
      obtain ⟨ir1, hir1⟩ : ∃ i, w2.heap.size = i := ⟨_, rfl⟩
      have r1 : Blk w3 ir1 24 #[.bool false, .slice none 0 0, .slice none 0 0] := by rw [← hw3, ← hir1]; exact Blk.new _ _ _
      have k3 : Below w2.heap.size w2 w3 := by rw [← hw3]; exact (Below.refl _ _).alloc (Nat.le_refl _) _
      have zr1 : w3.heap.size = ir1 + 1 := by rw [← hw3, ← hir1]; simp
      rw [hw3, ← zr0, hir1]
      have or1 : w.heap.size ≤ ir1 := by rw [← hir1]; exact bel.size
      have nb0r1 : ib0 ≠ ir1 := by have := b0.lt; omega
      have nr0r1 : ir0 ≠ ir1 := by have := r0.lt; omega
      have b0 := b0.below k3 b0.lt
      have r0 := r0.below k3 r0.lt
      have n0 := n0.below k3
      have bel := hthen bel k3
      clear k3
      clear hw3 hir1
      have b0c0 := b0.cell 0
      have b0c1 := b0.cell 1
      have b0c2 := b0.cell 2
      simp at b0c0 b0c1 b0c2
      have b0lt := b0.lt
      have r0c0 := r0.cell 0
      have r0c1 := r0.cell 1
      have r0c2 := r0.cell 2
      simp at r0c0 r0c1 r0c2
      have r0lt := r0.lt
      have r1c0 := r1.cell 0
      have r1c1 := r1.cell 1
      have r1c2 := r1.cell 2
      simp at r1c0 r1c1 r1c2
      have r1lt := r1.lt
      try (go_wp2_with fail)
      refine (rmay_to HM.out _ _ n0 hk hv).mono ?_
      rintro e w4 ⟨rfl, k4⟩
      clear b0c0 b0c1 b0c2 b0lt r0c0 r0c1 r0c2 r0lt r1c0 r1c1 r1c2 r1lt
      have b0 := b0.below k4 b0.lt
      have r0 := r0.below k4 r0.lt
      have r1 := r1.below k4 r1.lt
      have n0 := n0.below k4
      have bel := hthen bel k4
      clear k4
      have b0c0 := b0.cell 0
      have b0c1 := b0.cell 1
      have b0c2 := b0.cell 2
      simp at b0c0 b0c1 b0c2
      have b0lt := b0.lt
      have r0c0 := r0.cell 0
      have r0c1 := r0.cell 1
      have r0c2 := r0.cell 2
      simp at r0c0 r0c1 r0c2
      have r0lt := r0.lt
      have r1c0 := r1.cell 0
      have r1c1 := r1.cell 1
      have r1c2 := r1.cell 2
      simp at r1c0 r1c1 r1c2
      have r1lt := r1.lt
      have r0f0 := r0.frozen 0
      have r0f1 := r0.frozen 1
      have r0f2 := r0.frozen 2
      have r1f0 := r1.frozen 0
      have r1f1 := r1.frozen 1
      have r1f2 := r1.frozen 2
      go_wp2
      have xr := (((r0.put3 (.bool false) (.slice none 0 0) (.slice none 0 0)).far (p := ⟨ir1, 0, none⟩) nr0r1 (.bool false)).far (p := ⟨ir1, 1, none⟩) nr0r1 (.slice none 0 0)).far (p := ⟨ir1, 2, none⟩) nr0r1 (.slice none 0 0)
      have yr := (((r1.far (p := ⟨ir0, 0, none⟩) (Ne.symm nr0r1) (.bool false)).far (p := ⟨ir0, 1, none⟩) (Ne.symm nr0r1) (.slice none 0 0)).far (p := ⟨ir0, 2, none⟩) (Ne.symm nr0r1) (.slice none 0 0)).put3 (.bool false) (.slice none 0 0) (.slice none 0 0)
      have bel9 := below_at (below_at (below_at (below_at (below_at (below_at bel or0 0 (.bool false)) or0 1 (.slice none 0 0)) or0 2 (.slice none 0 0)) or1 0 (.bool false)) or1 1 (.slice none 0 0)) or1 2 (.slice none 0 0)
      have t0 := xr.cell 0
      have t1 := xr.cell 1
      have t2 := xr.cell 2
      have t3 := yr.cell 0
      have t4 := yr.cell 1
      have t5 := yr.cell 2
      simp at t0 t1 t2 t3 t4 t5
      refine bodyPost_ret (v := .tuple #[.agg #[.bool false, .slice none 0 0, .slice none 0 0], .agg #[.bool false, .slice none 0 0, .slice none 0 0], .bool false]) ?h1 rfl ?h2
      case h1 => simp [results, Try.results26, go_sem, t0, t1, t2, t3, t4, t5]
      case h2 => rw [HH.out, HF.out, HSN.out]; exact ⟨_, _, rfl, nd_empty _, nd_empty _, bel9⟩
    · have q0 : decide ((ks.length : Int) < 2) = false := decide_eq_false (by omega)
      have hh : halvesN ⟨leaf, ks, vs⟩ = true := by unfold halvesN; rw [hm]; simp; omega
      have HH : Hid (H = true) := Lib.hid (by rw [← hH, hh])
      have hcut := rBest_all hm (show 2 ≤ (⟨leaf, ks, vs⟩ : Nd).keys.length by show 2 ≤ ks.length; omega)
      simp only at hcut
      have HF : Hid (FN = ⟨leaf, ks.take (rBest (cutMax ⟨leaf, ks, vs⟩) (ks.length - 1)), vs.take (rBest (cutMax ⟨leaf, ks, vs⟩) (ks.length - 1))⟩) := Lib.hid (by rw [← hFN]; unfold firstN; rw [hh, hcut]; rfl)
      have HSN : Hid (SN = ⟨leaf, ks.drop (rBest (cutMax ⟨leaf, ks, vs⟩) (ks.length - 1)), vs.drop (rBest (cutMax ⟨leaf, ks, vs⟩) (ks.length - 1))⟩) := Lib.hid (by rw [← hSN]; unfold secondN; rw [hh, hcut]; rfl)
      obtain ⟨hs1, hs2⟩ := may_small hm
      simp only at hs1 hs2
      have HL := Lib.hid hs2
      have n01 := n00
      obtain ⟨_, _, eN, s1, s2⟩ := n01
      cases eN
      simp only at s1 s2
      obtain ⟨ad, rfl, _⟩ := s1.cell (Below.refl _ _) (j := 0) (by omega)
      obtain ⟨bd, rfl, _⟩ := s2.cell (Below.refl _ _) (j := 0) (by omega)
      have S1 := Lib.hid s1
      have S2 := Lib.hid s2
      have HM := Lib.hid hm
      clear hm hH hFN hSN hh hcut s1 s2 hs2
      go_enter Try.func26, Try.ntmps26
      go_wp2_with fail
      obtain ⟨w1, hw1⟩ : ∃ x, w.alloc (.cells #[.bool leaf, .slice (some ad) ks.length c, .slice (some bd) vs.length d] 24) = x := ⟨_, rfl⟩
      obtain ⟨ib0, hib0⟩ : ∃ i, w.heap.size = i := ⟨_, rfl⟩
      have b0 : Blk w1 ib0 24 #[.bool leaf, .slice (some ad) ks.length c, .slice (some bd) vs.length d] := by rw [← hw1, ← hib0]; exact Blk.new _ _ _
      have k1 : Below w.heap.size w w1 := by rw [← hw1]; exact (Below.refl _ _).alloc (Nat.le_refl _) _
      have zb0 : w1.heap.size = ib0 + 1 := by rw [← hw1, ← hib0]; simp
      rw [hw1, hib0]
      have ob0 : w.heap.size ≤ ib0 := by rw [← hib0]; exact bel.size
      have n0 := n0.below k1
      have bel := hthen bel k1
      clear k1
      clear hw1 hib0
      have b0c0 := b0.cell 0
      have b0c1 := b0.cell 1
      have b0c2 := b0.cell 2
      simp at b0c0 b0c1 b0c2
      have b0lt := b0.lt
      try (go_wp2_with fail)
      clear b0c0 b0c1 b0c2 b0lt
      obtain ⟨w2, hw2⟩ : ∃ x, w1.alloc (.cells #[.bool false, .slice none 0 0, .slice none 0 0] 24) = x := ⟨_, rfl⟩
      obtain ⟨ir0, hir0⟩ : ∃ i, w1.heap.size = i := ⟨_, rfl⟩
      have r0 : Blk w2 ir0 24 #[.bool false, .slice none 0 0, .slice none 0 0] := by rw [← hw2, ← hir0]; exact Blk.new _ _ _
      have k2 : Below w1.heap.size w1 w2 := by rw [← hw2]; exact (Below.refl _ _).alloc (Nat.le_refl _) _
      have zr0 : w2.heap.size = ir0 + 1 := by rw [← hw2, ← hir0]; simp
      rw [hw2, ← zb0, hir0]
      have or0 : w.heap.size ≤ ir0 := by rw [← hir0]; exact bel.size
      have nb0r0 : ib0 ≠ ir0 := by have := b0.lt; omega
      have b0 := b0.below k2 b0.lt
      have n0 := n0.below k2
      have bel := hthen bel k2
      clear k2
      clear hw2 hir0
      have b0c0 := b0.cell 0
      have b0c1 := b0.cell 1
      have b0c2 := b0.cell 2
      simp at b0c0 b0c1 b0c2
      have b0lt := b0.lt
      have r0c0 := r0.cell 0
      have r0c1 := r0.cell 1
      have r0c2 := r0.cell 2
      simp at r0c0 r0c1 r0c2
      have r0lt := r0.lt
      try (go_wp2_with fail)
      clear b0c0 b0c1 b0c2 b0lt r0c0 r0c1 r0c2 r0lt
      obtain ⟨w3, hw3⟩ : ∃ x, w2.alloc (.cells #[.bool false, .slice none 0 0, .slice none 0 0] 24) = x := ⟨_, rfl⟩
      obtain ⟨ir1, hir1⟩ : ∃ i, w2.heap.size = i := ⟨_, rfl⟩
      have r1 : Blk w3 ir1 24 #[.bool false, .slice none 0 0, .slice none 0 0] := by rw [← hw3, ← hir1]; exact Blk.new _ _ _
      have k3 : Below w2.heap.size w2 w3 := by rw [← hw3]; exact (Below.refl _ _).alloc (Nat.le_refl _) _
      have zr1 : w3.heap.size = ir1 + 1 := by rw [← hw3, ← hir1]; simp
      rw [hw3, ← zr0, hir1]
      have or1 : w.heap.size ≤ ir1 := by rw [← hir1]; exact bel.size
      have nb0r1 : ib0 ≠ ir1 := by have := b0.lt; omega
      have nr0r1 : ir0 ≠ ir1 := by have := r0.lt; omega
      have b0 := b0.below k3 b0.lt
      have r0 := r0.below k3 r0.lt
      have n0 := n0.below k3
      have bel := hthen bel k3
      clear k3
      clear hw3 hir1
      have b0c0 := b0.cell 0
      have b0c1 := b0.cell 1
      have b0c2 := b0.cell 2
      simp at b0c0 b0c1 b0c2
      have b0lt := b0.lt
      have r0c0 := r0.cell 0
      have r0c1 := r0.cell 1
      have r0c2 := r0.cell 2
      simp at r0c0 r0c1 r0c2
      have r0lt := r0.lt
      have r1c0 := r1.cell 0
      have r1c1 := r1.cell 1
      have r1c2 := r1.cell 2
      simp at r1c0 r1c1 r1c2
      have r1lt := r1.lt
      try (go_wp2_with fail)
      refine (rmay_to HM.out _ _ n0 hk hv).mono ?_
      rintro e w4 ⟨rfl, k4⟩
      clear b0c0 b0c1 b0c2 b0lt r0c0 r0c1 r0c2 r0lt r1c0 r1c1 r1c2 r1lt
      have b0 := b0.below k4 b0.lt
      have r0 := r0.below k4 r0.lt
      have r1 := r1.below k4 r1.lt
      have n0 := n0.below k4
      have bel := hthen bel k4
      clear k4
      have b0c0 := b0.cell 0
      have b0c1 := b0.cell 1
      have b0c2 := b0.cell 2
      simp at b0c0 b0c1 b0c2
      have b0lt := b0.lt
      have r0c0 := r0.cell 0
      have r0c1 := r0.cell 1
      have r0c2 := r0.cell 2
      simp at r0c0 r0c1 r0c2
      have r0lt := r0.lt
      have r1c0 := r1.cell 0
      have r1c1 := r1.cell 1
      have r1c2 := r1.cell 2
      simp at r1c0 r1c1 r1c2
      have r1lt := r1.lt
      go_wp2_with fail
      clear b0c0 b0c1 b0c2 b0lt r0c0 r0c1 r0c2 r0lt r1c0 r1c1 r1c2 r1lt
      obtain ⟨w5, hw5⟩ : ∃ x, w4.alloc (.cells #[.bool false, .slice none 0 0, .slice none 0 0] 24) = x := ⟨_, rfl⟩
      obtain ⟨iba, hiba⟩ : ∃ i, w4.heap.size = i := ⟨_, rfl⟩
      have ba : Blk w5 iba 24 #[.bool false, .slice none 0 0, .slice none 0 0] := by rw [← hw5, ← hiba]; exact Blk.new _ _ _
      have k5 : Below w4.heap.size w4 w5 := by rw [← hw5]; exact (Below.refl _ _).alloc (Nat.le_refl _) _
      have zba : w5.heap.size = iba + 1 := by rw [← hw5, ← hiba]; simp
      rw [hw5, hiba]
      have oba : w.heap.size ≤ iba := by rw [← hiba]; exact bel.size
      have nb0ba : ib0 ≠ iba := by have := b0.lt; omega
      have nr0ba : ir0 ≠ iba := by have := r0.lt; omega
      have nr1ba : ir1 ≠ iba := by have := r1.lt; omega
      have b0 := b0.below k5 b0.lt
      have r0 := r0.below k5 r0.lt
      have r1 := r1.below k5 r1.lt
      have n0 := n0.below k5
      have bel := hthen bel k5
      clear k5
      clear hw5 hiba
      have b0c0 := b0.cell 0
      have b0c1 := b0.cell 1
      have b0c2 := b0.cell 2
      simp at b0c0 b0c1 b0c2
      have b0lt := b0.lt
      have r0c0 := r0.cell 0
      have r0c1 := r0.cell 1
      have r0c2 := r0.cell 2
      simp at r0c0 r0c1 r0c2
      have r0lt := r0.lt
      have r1c0 := r1.cell 0
      have r1c1 := r1.cell 1
      have r1c2 := r1.cell 2
      simp at r1c0 r1c1 r1c2
      have r1lt := r1.lt
      have bac0 := ba.cell 0
      have bac1 := ba.cell 1
      have bac2 := ba.cell 2
      simp at bac0 bac1 bac2
      have balt := ba.lt
      try (go_wp2_with fail)
      clear b0c0 b0c1 b0c2 b0lt r0c0 r0c1 r0c2 r0lt r1c0 r1c1 r1c2 r1lt bac0 bac1 bac2 balt
      obtain ⟨w6, hw6⟩ : ∃ x, w5.alloc (.cells #[.bool false, .slice none 0 0, .slice none 0 0] 24) = x := ⟨_, rfl⟩
      obtain ⟨ibb, hibb⟩ : ∃ i, w5.heap.size = i := ⟨_, rfl⟩
      have bb : Blk w6 ibb 24 #[.bool false, .slice none 0 0, .slice none 0 0] := by rw [← hw6, ← hibb]; exact Blk.new _ _ _
      have k6 : Below w5.heap.size w5 w6 := by rw [← hw6]; exact (Below.refl _ _).alloc (Nat.le_refl _) _
      have zbb : w6.heap.size = ibb + 1 := by rw [← hw6, ← hibb]; simp
      rw [hw6, ← zba, hibb]
      have obb : w.heap.size ≤ ibb := by rw [← hibb]; exact bel.size
      have nb0bb : ib0 ≠ ibb := by have := b0.lt; omega
      have nr0bb : ir0 ≠ ibb := by have := r0.lt; omega
      have nr1bb : ir1 ≠ ibb := by have := r1.lt; omega
      have nbabb : iba ≠ ibb := by have := ba.lt; omega
      have b0 := b0.below k6 b0.lt
      have r0 := r0.below k6 r0.lt
      have r1 := r1.below k6 r1.lt
      have ba := ba.below k6 ba.lt
      have n0 := n0.below k6
      have bel := hthen bel k6
      clear k6
      clear hw6 hibb
      have b0c0 := b0.cell 0
      have b0c1 := b0.cell 1
      have b0c2 := b0.cell 2
      simp at b0c0 b0c1 b0c2
      have b0lt := b0.lt
      have r0c0 := r0.cell 0
      have r0c1 := r0.cell 1
      have r0c2 := r0.cell 2
      simp at r0c0 r0c1 r0c2
      have r0lt := r0.lt
      have r1c0 := r1.cell 0
      have r1c1 := r1.cell 1
      have r1c2 := r1.cell 2
      simp at r1c0 r1c1 r1c2
      have r1lt := r1.lt
      have bac0 := ba.cell 0
      have bac1 := ba.cell 1
      have bac2 := ba.cell 2
      simp at bac0 bac1 bac2
      have balt := ba.lt
      have bbc0 := bb.cell 0
      have bbc1 := bb.cell 1
      have bbc2 := bb.cell 2
      simp at bbc0 bbc1 bbc2
      have bblt := bb.lt
      try (go_wp2_with fail)
      clear b0c0 b0c1 b0c2 b0lt r0c0 r0c1 r0c2 r0lt r1c0 r1c1 r1c2 r1lt bac0 bac1 bac2 balt bbc0 bbc1 bbc2 bblt
      clear n0
      go_loopw [7, 8] (fun best many wr => ∃ (M : Nat) (B : Int) (la : Bool) (A1 : Option Addr) (a1 c1 : Nat) (C1 : Option Addr) (e1 d1 : Nat) (lb : Bool) (A2 : Option Addr) (a2 c2 : Nat) (C2 : Option Addr) (e2 d2 : Nat), 1 ≤ M ∧ M ≤ ks.length ∧ many = .int .i64 M ∧ best = .int .i64 B ∧ Hid (1 < M → B = ((cutMax ⟨leaf, ks, vs⟩) (rBest (cutMax ⟨leaf, ks, vs⟩) (M - 1)) : Nat) ∧ NdV w (.agg #[.bool la, .slice A1 a1 c1, .slice C1 e1 d1]) ⟨leaf, ks.take (rBest (cutMax ⟨leaf, ks, vs⟩) (M - 1)), vs.take (rBest (cutMax ⟨leaf, ks, vs⟩) (M - 1))⟩ ∧ NdV w (.agg #[.bool lb, .slice A2 a2 c2, .slice C2 e2 d2]) ⟨leaf, ks.drop (rBest (cutMax ⟨leaf, ks, vs⟩) (M - 1)), vs.drop (rBest (cutMax ⟨leaf, ks, vs⟩) (M - 1))⟩) ∧ Below w.heap.size w wr ∧ Blk wr ib0 24 #[.bool leaf, .slice (some ad) ks.length c, .slice (some bd) vs.length d] ∧ Blk wr ir0 24 #[.bool false, .slice none 0 0, .slice none 0 0] ∧ Blk wr ir1 24 #[.bool false, .slice none 0 0, .slice none 0 0] ∧ Blk wr iba 24 #[.bool la, .slice A1 a1 c1, .slice C1 e1 d1] ∧ Blk wr ibb 24 #[.bool lb, .slice A2 a2 c2, .slice C2 e2 d2]) (fun _ i _ => ks.length - (intOf i).toNat)
      case atStart => exact ⟨1, 0, false, none, 0, 0, none, 0, 0, false, none, 0, 0, none, 0, 0, Nat.le_refl _, by omega, rfl, rfl, Lib.hid (fun h => absurd h (by omega)), bel, b0, r0, r1, ba, bb⟩
      case round =>
        clear bel b0 r0 r1 ba bb
        obtain ⟨M, B, la, A1, a1, c1, C1, e1, d1, lb, A2, a2, c2, C2, e2, d2, hM1, hMl, rfl, rfl, HB, bel, b0, r0, r1, ba, bb⟩ := hrel
        by_cases hlt : M < ks.length
        · have q1 : decide ((M : Int) < ks.length) = true := decide_eq_true (by omega)
          have T0 : (0 : Int) ≤ M := by omega
          have T1 : (M : Int) ≤ c := by omega
          have T2 : (M : Int) ≤ d := by rw [HL.out] at hd; omega
          have T3 : (M : Int) ≤ ks.length := by omega
          have T4 : (M : Int) ≤ vs.length := by rw [HL.out]; omega
          have T5 : M ≤ vs.length := by rw [HL.out]; omega
          have U1 : ¬ c = M := by omega
          have U2 : ¬ d = M := by rw [HL.out] at hd; omega
          have nx0 : NdV w (.agg #[.bool leaf, .slice (some ad) M c, .slice (some bd) M d]) ⟨leaf, ks.take M, vs.take M⟩ := ⟨_, _, rfl, S1.out.take hMl c, S2.out.take T5 d⟩
          have ny0 : NdV w (.agg #[.bool leaf, .slice (some (ad.add M)) (ks.length - M) (c - M), .slice (some (bd.add M)) (vs.length - M) (d - M)]) ⟨leaf, ks.drop M, vs.drop M⟩ := ⟨_, _, rfl, S1.out.drop hMl (c - M), S2.out.drop T5 (d - M)⟩
          have sx := take_size HM.out (c := M) hMl
          obtain ⟨SX, hSX⟩ : ∃ S, sizeN ⟨leaf, ks.take M, vs.take M⟩ = S := ⟨_, rfl⟩
          obtain ⟨SY, hSY⟩ : ∃ S, sizeN ⟨leaf, ks.drop M, vs.drop M⟩ = S := ⟨_, rfl⟩
          have hCM : (cutMax ⟨leaf, ks, vs⟩) M = max SX SY := by unfold cutMax; rw [hSX, hSY]
          have HSX := Lib.hid hSX
          have nx9 := Lib.hid nx0
          have ny9 := Lib.hid ny0
          have HSY := Lib.hid hSY
          have HCM := Lib.hid hCM
          clear sx hSX hSY hCM
          have b0c0 := b0.cell 0
          have b0c1 := b0.cell 1
          have b0c2 := b0.cell 2
          simp at b0c0 b0c1 b0c2
          have b0lt := b0.lt
          have r0c0 := r0.cell 0
          have r0c1 := r0.cell 1
          have r0c2 := r0.cell 2
          simp at r0c0 r0c1 r0c2
          have r0lt := r0.lt
          have r1c0 := r1.cell 0
          have r1c1 := r1.cell 1
          have r1c2 := r1.cell 2
          simp at r1c0 r1c1 r1c2
          have r1lt := r1.lt
          have bac0 := ba.cell 0
          have bac1 := ba.cell 1
          have bac2 := ba.cell 2
          simp at bac0 bac1 bac2
          have balt := ba.lt
          have bbc0 := bb.cell 0
          have bbc1 := bb.cell 1
          have bbc2 := bb.cell 2
          simp at bbc0 bbc1 bbc2
          have bblt := bb.lt
          go_wp2_with fail
          clear b0c0 b0c1 b0c2 b0lt r0c0 r0c1 r0c2 r0lt r1c0 r1c1 r1c2 r1lt bac0 bac1 bac2 balt bbc0 bbc1 bbc2 bblt
          have bel := bel.drew
          have b0 := b0.drew
          have r0 := r0.drew
          have r1 := r1.drew
          have ba := ba.drew
          have bb := bb.drew
          refine wp_region_noPanic ?_
          refine wp_region_held_drew (S := (fun w' => w'.cell? ⟨ib0, 0, none⟩ = some (.bool leaf) ∧ w'.cell? ⟨ib0, 1, none⟩ = some (.slice (some ad) ks.length c) ∧ w'.cell? ⟨ib0, 2, none⟩ = some (.slice (some bd) vs.length d))) (by kernel_rfl) ?hS0 (fun hHeld => ?_)
          case hS0 => (have q0 := b0.cell 0; have q1 := b0.cell 1; have q2 := b0.cell 2; simp at q0 q1 q2; exact ⟨q0, q1, q2⟩)
          generalize hZ : wr.drew = wd31 at *
          clear hZ
          refine wpAnyH_take (i := 0) (oi := ⟨some 30, _, _, _, _, _⟩) (v := ?_) rfl (by kernel_rfl) (by kernel_rfl) (by kernel_rfl) (fun _ _ _ h => h) (Or.inl ⟨by kernel_rfl, ?_⟩) hHeld ?_
          rotate_left
          · (intro w hSw; (try dsimp only at hSw); go_simp; try with_reducible rfl)
          try simp only [Act.put, List.getElem_toArray, List.getElem_cons_succ, List.getElem_cons_zero, List.setIfInBounds_toArray, List.set_cons_zero, List.set_cons_succ]
          refine wpAnyH_take (i := 1) (oi := ⟨some 31, _, _, _, _, _⟩) (v := ?_) rfl (by kernel_rfl) (by kernel_rfl) (by kernel_rfl) (fun _ _ _ h => h) (Or.inl ⟨by kernel_rfl, ?_⟩) hHeld ?_
          rotate_left
          · (intro w hSw; (try dsimp only at hSw); go_simp; try with_reducible rfl)
          try simp only [Act.put, List.getElem_toArray, List.getElem_cons_succ, List.getElem_cons_zero, List.setIfInBounds_toArray, List.set_cons_zero, List.set_cons_succ]
          refine wpAnyH_take (i := 2) (oi := ⟨some 32, _, _, _, _, _⟩) (v := ?_) rfl (by kernel_rfl) (by kernel_rfl) (by kernel_rfl) (fun _ _ _ h => h) (Or.inl ⟨by kernel_rfl, ?_⟩) hHeld ?_
          rotate_left
          · (intro w hSw; (try dsimp only at hSw); go_simp; try with_reducible rfl)
          try simp only [Act.put, List.getElem_toArray, List.getElem_cons_succ, List.getElem_cons_zero, List.setIfInBounds_toArray, List.set_cons_zero, List.set_cons_succ]
          refine wpAnyH_take (i := 3) (oi := ⟨some 33, _, _, _, _, _⟩) (v := ?_) rfl (by kernel_rfl) (by kernel_rfl) (by kernel_rfl) (fun _ _ _ h => h) (Or.inl ⟨by kernel_rfl, ?_⟩) hHeld ?_
          rotate_left
          · (intro w hSw; (try dsimp only at hSw); go_simp; try with_reducible rfl)
          try simp only [Act.put, List.getElem_toArray, List.getElem_cons_succ, List.getElem_cons_zero, List.setIfInBounds_toArray, List.set_cons_zero, List.set_cons_succ]
          refine wpAnyH_take (i := 4) (oi := ⟨some 34, _, _, _, _, _⟩) (v := ?_) rfl (by kernel_rfl) (by kernel_rfl) (by kernel_rfl) (fun _ _ _ h => h) (Or.inl ⟨by kernel_rfl, ?_⟩) hHeld ?_
          rotate_left
          · (intro w hSw; (try dsimp only at hSw); go_simp; try with_reducible rfl)
          try simp only [Act.put, List.getElem_toArray, List.getElem_cons_succ, List.getElem_cons_zero, List.setIfInBounds_toArray, List.set_cons_zero, List.set_cons_succ]
          refine wpAnyH_take (i := 5) (oi := ⟨some 35, _, _, _, _, _⟩) (v := ?_) rfl (by kernel_rfl) (by kernel_rfl) (by kernel_rfl) (fun _ _ _ h => h) (Or.inl ⟨by kernel_rfl, ?_⟩) hHeld ?_
          rotate_left
          · (intro w hSw; (try dsimp only at hSw); go_simp; try with_reducible rfl)
          try simp only [Act.put, List.getElem_toArray, List.getElem_cons_succ, List.getElem_cons_zero, List.setIfInBounds_toArray, List.set_cons_zero, List.set_cons_succ]
          refine wpAnyH_take (i := 6) (oi := ⟨some 36, _, _, _, _, _⟩) (v := ?_) rfl (by kernel_rfl) (by kernel_rfl) (by kernel_rfl) (fun _ _ _ h => h) (Or.inl ⟨by kernel_rfl, ?_⟩) hHeld ?_
          rotate_left
          · (intro w hSw; (try dsimp only at hSw); go_simp; try with_reducible rfl)
          try simp only [Act.put, List.getElem_toArray, List.getElem_cons_succ, List.getElem_cons_zero, List.setIfInBounds_toArray, List.set_cons_zero, List.set_cons_succ]
          refine wpAnyH_take (i := 7) (oi := ⟨some 37, _, _, _, _, _⟩) (v := ?_) rfl (by kernel_rfl) (by kernel_rfl) (by kernel_rfl) (fun _ _ _ h => h) (Or.inl ⟨by kernel_rfl, ?_⟩) hHeld ?_
          rotate_left
          · (intro w hSw; (try dsimp only at hSw); go_simp; try with_reducible rfl)
          try simp only [Act.put, List.getElem_toArray, List.getElem_cons_succ, List.getElem_cons_zero, List.setIfInBounds_toArray, List.set_cons_zero, List.set_cons_succ]
          refine wpAnyH_take (i := 8) (oi := ⟨some 38, _, _, _, _, _⟩) (v := ?_) rfl (by kernel_rfl) (by kernel_rfl) (by kernel_rfl) (fun _ _ _ h => h) (Or.inl ⟨by kernel_rfl, ?_⟩) hHeld ?_
          rotate_left
          · (intro w hSw; (try dsimp only at hSw); go_simp; try with_reducible rfl)
          try simp only [Act.put, List.getElem_toArray, List.getElem_cons_succ, List.getElem_cons_zero, List.setIfInBounds_toArray, List.set_cons_zero, List.set_cons_succ]
          refine wpAnyH_take (i := 9) (oi := ⟨some 39, _, _, _, _, _⟩) (v := ?_) rfl (by kernel_rfl) (by kernel_rfl) (by kernel_rfl) (fun _ _ _ h => h) (Or.inl ⟨by kernel_rfl, ?_⟩) hHeld ?_
          rotate_left
          · (intro w hSw; (try dsimp only at hSw); go_simp; try with_reducible rfl)
          try simp only [Act.put, List.getElem_toArray, List.getElem_cons_succ, List.getElem_cons_zero, List.setIfInBounds_toArray, List.set_cons_zero, List.set_cons_succ]
          refine wpAnyH_take (i := 10) (oi := ⟨some 40, _, _, _, _, _⟩) (v := ?_) rfl (by kernel_rfl) (by kernel_rfl) (by kernel_rfl) (fun _ _ _ h => h) (Or.inl ⟨by kernel_rfl, ?_⟩) hHeld ?_
          rotate_left
          · (intro w hSw; (try dsimp only at hSw); go_simp; try with_reducible rfl)
          try simp only [Act.put, List.getElem_toArray, List.getElem_cons_succ, List.getElem_cons_zero, List.setIfInBounds_toArray, List.set_cons_zero, List.set_cons_succ]
          refine wpAnyH_ready (rs := [11]) (by kernel_rfl) (by simp) ?_
          refine (AllReadyH.cons rfl (fun K hK => ?_) AllReadyH.nil)
          try rw [if_pos (by kernel_rfl)]
          go_simp
          obtain ⟨w32, hX⟩ : ∃ x, wd31.alloc (.cells #[.bool false, .slice none 0 0, .slice none 0 0] 24) = x := ⟨_, rfl⟩
          obtain ⟨ibx, hibx⟩ : ∃ i, wd31.heap.size = i := ⟨_, rfl⟩
          have obx : w.heap.size ≤ ibx := by rw [← hibx]; exact bel.size
          have nb0bx : ib0 ≠ ibx := by have := b0.lt; omega
          have nr0bx : ir0 ≠ ibx := by have := r0.lt; omega
          have nr1bx : ir1 ≠ ibx := by have := r1.lt; omega
          have nbabx : iba ≠ ibx := by have := ba.lt; omega
          have nbbbx : ibb ≠ ibx := by have := bb.lt; omega
          have bx : Blk w32 ibx 24 #[.bool false, .slice none 0 0, .slice none 0 0] := by rw [← hX, ← hibx]; exact Blk.new _ _ _
          have kabx : Below wd31.heap.size wd31 w32 := by rw [← hX]; exact (Below.refl _ _).alloc (Nat.le_refl _) _
          rw [hX, hibx]
          clear hX
          try dsimp only
          refine hK.out _ _ (by have b0 := b0.below kabx b0.lt; have r0 := r0.below kabx r0.lt; have r1 := r1.below kabx r1.lt; have ba := ba.below kabx ba.lt; have bb := bb.below kabx bb.lt; have q0 := b0.cell 0; have q1 := b0.cell 1; have q2 := b0.cell 2; simp at q0 q1 q2; exact ⟨q0, q1, q2⟩) (fun hHeld => ?_)
          clear hK K
          try simp only [Act.put, List.getElem_toArray, List.getElem_cons_succ, List.getElem_cons_zero, List.setIfInBounds_toArray, List.set_cons_zero, List.set_cons_succ]
          refine wpAnyH_ready (rs := [12]) (by kernel_rfl) (by simp) ?_
          refine (AllReadyH.cons rfl (fun K hK => ?_) AllReadyH.nil)
          have bxz0 := bx.cell 0
          have bxf0 := bx.frozen 0
          have bxz1 := bx.cell 1
          have bxf1 := bx.frozen 1
          have bxz2 := bx.cell 2
          have bxf2 := bx.frozen 2
          simp at bxz0 bxz1 bxz2
          try rw [if_pos (by kernel_rfl)]
          go_simp
          obtain ⟨w33, hX⟩ : ∃ x, (((w32.setCell ⟨ibx, 0, none⟩ (.bool leaf)).setCell ⟨ibx, 1, none⟩ (.slice (some ad) M c)).setCell ⟨ibx, 2, none⟩ (.slice (some bd) M d)) = x := ⟨_, rfl⟩
          have bxn : Blk w33 ibx 24 #[.bool leaf, .slice (some ad) M c, .slice (some bd) M d] := by rw [← hX]; simpa using (((bx.set_ 0 (.bool leaf)).set_ 1 (.slice (some ad) M c)).set_ 2 (.slice (some bd) M d))
          have kbbx : Below wd31.heap.size wd31 w33 := by rw [← hX]; exact (below_at (below_at (below_at kabx (Nat.le_of_eq hibx) 0 (.bool leaf)) (Nat.le_of_eq hibx) 1 (.slice (some ad) M c)) (Nat.le_of_eq hibx) 2 (.slice (some bd) M d))
          rw [hX]
          have b0 := b0.below kbbx b0.lt
          have r0 := r0.below kbbx r0.lt
          have r1 := r1.below kbbx r1.lt
          have ba := ba.below kbbx ba.lt
          have bb := bb.below kbbx bb.lt
          have bel := hthen bel kbbx
          have bx := bxn
          clear hX kbbx kabx bxn hibx bxz0 bxf0 bxz1 bxf1 bxz2 bxf2
          try dsimp only
          refine hK.out _ _ (by have q0 := b0.cell 0; have q1 := b0.cell 1; have q2 := b0.cell 2; simp at q0 q1 q2; exact ⟨q0, q1, q2⟩) (fun hHeld => ?_)
          clear hK K
          try simp only [Act.put, List.getElem_toArray, List.getElem_cons_succ, List.getElem_cons_zero, List.setIfInBounds_toArray, List.set_cons_zero, List.set_cons_succ]
          refine wpAnyH_done (by kernel_rfl) ?_ _
          refine NoPanic.normal ?_
          have b0c0 := b0.cell 0
          have b0c1 := b0.cell 1
          have b0c2 := b0.cell 2
          simp at b0c0 b0c1 b0c2
          have b0lt := b0.lt
          have r0c0 := r0.cell 0
          have r0c1 := r0.cell 1
          have r0c2 := r0.cell 2
          simp at r0c0 r0c1 r0c2
          have r0lt := r0.lt
          have r1c0 := r1.cell 0
          have r1c1 := r1.cell 1
          have r1c2 := r1.cell 2
          simp at r1c0 r1c1 r1c2
          have r1lt := r1.lt
          have bac0 := ba.cell 0
          have bac1 := ba.cell 1
          have bac2 := ba.cell 2
          simp at bac0 bac1 bac2
          have balt := ba.lt
          have bbc0 := bb.cell 0
          have bbc1 := bb.cell 1
          have bbc2 := bb.cell 2
          simp at bbc0 bbc1 bbc2
          have bblt := bb.lt
          have bxc0 := bx.cell 0
          have bxc1 := bx.cell 1
          have bxc2 := bx.cell 2
          simp at bxc0 bxc1 bxc2
          have bxlt := bx.lt
          go_wp2_with fail
          clear b0c0 b0c1 b0c2 b0lt r0c0 r0c1 r0c2 r0lt r1c0 r1c1 r1c2 r1lt bac0 bac1 bac2 balt bbc0 bbc1 bbc2 bblt bxc0 bxc1 bxc2 bxlt
          have bel := bel.drew
          have b0 := b0.drew
          have r0 := r0.drew
          have r1 := r1.drew
          have ba := ba.drew
          have bb := bb.drew
          have bx := bx.drew
          refine wp_region_noPanic ?_
          refine wp_region_held_drew (S := (fun w' => w'.cell? ⟨ib0, 0, none⟩ = some (.bool leaf) ∧ w'.cell? ⟨ib0, 1, none⟩ = some (.slice (some ad) ks.length c) ∧ w'.cell? ⟨ib0, 2, none⟩ = some (.slice (some bd) vs.length d))) (by kernel_rfl) ?hS0 (fun hHeld => ?_)
          case hS0 => (have q0 := b0.cell 0; have q1 := b0.cell 1; have q2 := b0.cell 2; simp at q0 q1 q2; exact ⟨q0, q1, q2⟩)
          generalize hZ : w33.drew = wd34 at *
          clear hZ
          refine wpAnyH_take (i := 0) (oi := ⟨some 41, _, _, _, _, _⟩) (v := ?_) rfl (by kernel_rfl) (by kernel_rfl) (by kernel_rfl) (fun _ _ _ h => h) (Or.inl ⟨by kernel_rfl, ?_⟩) hHeld ?_
          rotate_left
          · (intro w hSw; (try dsimp only at hSw); go_simp; try with_reducible rfl)
          try simp only [Act.put, List.getElem_toArray, List.getElem_cons_succ, List.getElem_cons_zero, List.setIfInBounds_toArray, List.set_cons_zero, List.set_cons_succ]
          refine wpAnyH_take (i := 1) (oi := ⟨some 42, _, _, _, _, _⟩) (v := ?_) rfl (by kernel_rfl) (by kernel_rfl) (by kernel_rfl) (fun _ _ _ h => h) (Or.inl ⟨by kernel_rfl, ?_⟩) hHeld ?_
          rotate_left
          · (intro w hSw; (try dsimp only at hSw); go_simp; try with_reducible rfl)
          try simp only [Act.put, List.getElem_toArray, List.getElem_cons_succ, List.getElem_cons_zero, List.setIfInBounds_toArray, List.set_cons_zero, List.set_cons_succ]
          refine wpAnyH_take (i := 2) (oi := ⟨some 43, _, _, _, _, _⟩) (v := ?_) rfl (by kernel_rfl) (by kernel_rfl) (by kernel_rfl) (fun _ _ _ h => h) (Or.inl ⟨by kernel_rfl, ?_⟩) hHeld ?_
          rotate_left
          · (intro w hSw; (try dsimp only at hSw); go_simp; try with_reducible rfl)
          try simp only [Act.put, List.getElem_toArray, List.getElem_cons_succ, List.getElem_cons_zero, List.setIfInBounds_toArray, List.set_cons_zero, List.set_cons_succ]
          refine wpAnyH_take (i := 3) (oi := ⟨some 44, _, _, _, _, _⟩) (v := ?_) rfl (by kernel_rfl) (by kernel_rfl) (by kernel_rfl) (fun _ _ _ h => h) (Or.inl ⟨by kernel_rfl, ?_⟩) hHeld ?_
          rotate_left
          · (intro w hSw; (try dsimp only at hSw); go_simp; try with_reducible rfl)
          try simp only [Act.put, List.getElem_toArray, List.getElem_cons_succ, List.getElem_cons_zero, List.setIfInBounds_toArray, List.set_cons_zero, List.set_cons_succ]
          refine wpAnyH_take (i := 4) (oi := ⟨some 45, _, _, _, _, _⟩) (v := ?_) rfl (by kernel_rfl) (by kernel_rfl) (by kernel_rfl) (fun _ _ _ h => h) (Or.inl ⟨by kernel_rfl, ?_⟩) hHeld ?_
          rotate_left
          · (intro w hSw; (try dsimp only at hSw); go_simp; try with_reducible rfl)
          try simp only [Act.put, List.getElem_toArray, List.getElem_cons_succ, List.getElem_cons_zero, List.setIfInBounds_toArray, List.set_cons_zero, List.set_cons_succ]
          refine wpAnyH_take (i := 5) (oi := ⟨some 46, _, _, _, _, _⟩) (v := ?_) rfl (by kernel_rfl) (by kernel_rfl) (by kernel_rfl) (fun _ _ _ h => h) (Or.inl ⟨by kernel_rfl, ?_⟩) hHeld ?_
          rotate_left
          · (intro w hSw; (try dsimp only at hSw); go_simp; try with_reducible rfl)
          try simp only [Act.put, List.getElem_toArray, List.getElem_cons_succ, List.getElem_cons_zero, List.setIfInBounds_toArray, List.set_cons_zero, List.set_cons_succ]
          refine wpAnyH_take (i := 6) (oi := ⟨some 47, _, _, _, _, _⟩) (v := ?_) rfl (by kernel_rfl) (by kernel_rfl) (by kernel_rfl) (fun _ _ _ h => h) (Or.inl ⟨by kernel_rfl, ?_⟩) hHeld ?_
          rotate_left
          · (intro w hSw; (try dsimp only at hSw); go_simp; try with_reducible rfl)
          try simp only [Act.put, List.getElem_toArray, List.getElem_cons_succ, List.getElem_cons_zero, List.setIfInBounds_toArray, List.set_cons_zero, List.set_cons_succ]
          refine wpAnyH_take (i := 7) (oi := ⟨some 48, _, _, _, _, _⟩) (v := ?_) rfl (by kernel_rfl) (by kernel_rfl) (by kernel_rfl) (fun _ _ _ h => h) (Or.inl ⟨by kernel_rfl, ?_⟩) hHeld ?_
          rotate_left
          · (intro w hSw; (try dsimp only at hSw); go_simp; try with_reducible rfl)
          try simp only [Act.put, List.getElem_toArray, List.getElem_cons_succ, List.getElem_cons_zero, List.setIfInBounds_toArray, List.set_cons_zero, List.set_cons_succ]
          refine wpAnyH_take (i := 8) (oi := ⟨some 49, _, _, _, _, _⟩) (v := ?_) rfl (by kernel_rfl) (by kernel_rfl) (by kernel_rfl) (fun _ _ _ h => h) (Or.inl ⟨by kernel_rfl, ?_⟩) hHeld ?_
          rotate_left
          · (intro w hSw; (try dsimp only at hSw); go_simp; try with_reducible rfl)
          try simp only [Act.put, List.getElem_toArray, List.getElem_cons_succ, List.getElem_cons_zero, List.setIfInBounds_toArray, List.set_cons_zero, List.set_cons_succ]
          refine wpAnyH_take (i := 9) (oi := ⟨some 50, _, _, _, _, _⟩) (v := ?_) rfl (by kernel_rfl) (by kernel_rfl) (by kernel_rfl) (fun _ _ _ h => h) (Or.inl ⟨by kernel_rfl, ?_⟩) hHeld ?_
          rotate_left
          · (intro w hSw; (try dsimp only at hSw); go_simp; try with_reducible rfl)
          try simp only [Act.put, List.getElem_toArray, List.getElem_cons_succ, List.getElem_cons_zero, List.setIfInBounds_toArray, List.set_cons_zero, List.set_cons_succ]
          refine wpAnyH_take (i := 10) (oi := ⟨some 51, _, _, _, _, _⟩) (v := ?_) rfl (by kernel_rfl) (by kernel_rfl) (by kernel_rfl) (fun _ _ _ h => h) (Or.inl ⟨by kernel_rfl, ?_⟩) hHeld ?_
          rotate_left
          · (intro w hSw; (try dsimp only at hSw); go_simp; try with_reducible rfl)
          try simp only [Act.put, List.getElem_toArray, List.getElem_cons_succ, List.getElem_cons_zero, List.setIfInBounds_toArray, List.set_cons_zero, List.set_cons_succ]
          refine wpAnyH_ready (rs := [11]) (by kernel_rfl) (by simp) ?_
          refine (AllReadyH.cons rfl (fun K hK => ?_) AllReadyH.nil)
          try rw [if_pos (by kernel_rfl)]
          go_simp
          obtain ⟨w35, hX⟩ : ∃ x, wd34.alloc (.cells #[.bool false, .slice none 0 0, .slice none 0 0] 24) = x := ⟨_, rfl⟩
          obtain ⟨ibz, hibz⟩ : ∃ i, wd34.heap.size = i := ⟨_, rfl⟩
          have obz : w.heap.size ≤ ibz := by rw [← hibz]; exact bel.size
          have nb0bz : ib0 ≠ ibz := by have := b0.lt; omega
          have nr0bz : ir0 ≠ ibz := by have := r0.lt; omega
          have nr1bz : ir1 ≠ ibz := by have := r1.lt; omega
          have nbabz : iba ≠ ibz := by have := ba.lt; omega
          have nbbbz : ibb ≠ ibz := by have := bb.lt; omega
          have nbxbz : ibx ≠ ibz := by have := bx.lt; omega
          have bz : Blk w35 ibz 24 #[.bool false, .slice none 0 0, .slice none 0 0] := by rw [← hX, ← hibz]; exact Blk.new _ _ _
          have kabz : Below wd34.heap.size wd34 w35 := by rw [← hX]; exact (Below.refl _ _).alloc (Nat.le_refl _) _
          rw [hX, hibz]
          clear hX
          try dsimp only
          refine hK.out _ _ (by have b0 := b0.below kabz b0.lt; have r0 := r0.below kabz r0.lt; have r1 := r1.below kabz r1.lt; have ba := ba.below kabz ba.lt; have bb := bb.below kabz bb.lt; have bx := bx.below kabz bx.lt; have q0 := b0.cell 0; have q1 := b0.cell 1; have q2 := b0.cell 2; simp at q0 q1 q2; exact ⟨q0, q1, q2⟩) (fun hHeld => ?_)
          clear hK K
          try simp only [Act.put, List.getElem_toArray, List.getElem_cons_succ, List.getElem_cons_zero, List.setIfInBounds_toArray, List.set_cons_zero, List.set_cons_succ]
          refine wpAnyH_ready (rs := [12]) (by kernel_rfl) (by simp) ?_
          refine (AllReadyH.cons rfl (fun K hK => ?_) AllReadyH.nil)
          have bzz0 := bz.cell 0
          have bzf0 := bz.frozen 0
          have bzz1 := bz.cell 1
          have bzf1 := bz.frozen 1
          have bzz2 := bz.cell 2
          have bzf2 := bz.frozen 2
          simp at bzz0 bzz1 bzz2
          try rw [if_pos (by kernel_rfl)]
          go_simp
          obtain ⟨w36, hX⟩ : ∃ x, (((w35.setCell ⟨ibz, 0, none⟩ (.bool leaf)).setCell ⟨ibz, 1, none⟩ (.slice (some (ad.add M)) (ks.length - M) (c - M))).setCell ⟨ibz, 2, none⟩ (.slice (some (bd.add M)) (vs.length - M) (d - M))) = x := ⟨_, rfl⟩
          have bzn : Blk w36 ibz 24 #[.bool leaf, .slice (some (ad.add M)) (ks.length - M) (c - M), .slice (some (bd.add M)) (vs.length - M) (d - M)] := by rw [← hX]; simpa using (((bz.set_ 0 (.bool leaf)).set_ 1 (.slice (some (ad.add M)) (ks.length - M) (c - M))).set_ 2 (.slice (some (bd.add M)) (vs.length - M) (d - M)))
          have kbbz : Below wd34.heap.size wd34 w36 := by rw [← hX]; exact (below_at (below_at (below_at kabz (Nat.le_of_eq hibz) 0 (.bool leaf)) (Nat.le_of_eq hibz) 1 (.slice (some (ad.add M)) (ks.length - M) (c - M))) (Nat.le_of_eq hibz) 2 (.slice (some (bd.add M)) (vs.length - M) (d - M)))
          rw [hX]
          have b0 := b0.below kbbz b0.lt
          have r0 := r0.below kbbz r0.lt
          have r1 := r1.below kbbz r1.lt
          have ba := ba.below kbbz ba.lt
          have bb := bb.below kbbz bb.lt
          have bx := bx.below kbbz bx.lt
          have bel := hthen bel kbbz
          have bz := bzn
          clear hX kbbz kabz bzn hibz bzz0 bzf0 bzz1 bzf1 bzz2 bzf2
          try dsimp only
          refine hK.out _ _ (by have q0 := b0.cell 0; have q1 := b0.cell 1; have q2 := b0.cell 2; simp at q0 q1 q2; exact ⟨q0, q1, q2⟩) (fun hHeld => ?_)
          clear hK K
          try simp only [Act.put, List.getElem_toArray, List.getElem_cons_succ, List.getElem_cons_zero, List.setIfInBounds_toArray, List.set_cons_zero, List.set_cons_succ]
          refine wpAnyH_done (by kernel_rfl) ?_ _
          refine NoPanic.normal ?_
          have b0c0 := b0.cell 0
          have b0c1 := b0.cell 1
          have b0c2 := b0.cell 2
          simp at b0c0 b0c1 b0c2
          have b0lt := b0.lt
          have r0c0 := r0.cell 0
          have r0c1 := r0.cell 1
          have r0c2 := r0.cell 2
          simp at r0c0 r0c1 r0c2
          have r0lt := r0.lt
          have r1c0 := r1.cell 0
          have r1c1 := r1.cell 1
          have r1c2 := r1.cell 2
          simp at r1c0 r1c1 r1c2
          have r1lt := r1.lt
          have bac0 := ba.cell 0
          have bac1 := ba.cell 1
          have bac2 := ba.cell 2
          simp at bac0 bac1 bac2
          have balt := ba.lt
          have bbc0 := bb.cell 0
          have bbc1 := bb.cell 1
          have bbc2 := bb.cell 2
          simp at bbc0 bbc1 bbc2
          have bblt := bb.lt
          have bxc0 := bx.cell 0
          have bxc1 := bx.cell 1
          have bxc2 := bx.cell 2
          simp at bxc0 bxc1 bxc2
          have bxlt := bx.lt
          have bzc0 := bz.cell 0
          have bzc1 := bz.cell 1
          have bzc2 := bz.cell 2
          simp at bzc0 bzc1 bzc2
          have bzlt := bz.lt
          go_wp2_with fail
          have nx := nx0.below bel
          have ny := ny0.below bel
          clear nx0 ny0
          clear b0c0 b0c1 b0c2 b0lt r0c0 r0c1 r0c2 r0lt r1c0 r1c1 r1c2 r1lt bac0 bac1 bac2 balt bbc0 bbc1 bbc2 bblt bxc0 bxc1 bxc2 bxlt bzc0 bzc1 bzc2 bzlt
          have nx := nx.below (Below.refl _ _).drew
          have ny := ny.below (Below.refl _ _).drew
          have bel := bel.drew
          have b0 := b0.drew
          have r0 := r0.drew
          have r1 := r1.drew
          have ba := ba.drew
          have bb := bb.drew
          have bx := bx.drew
          have bz := bz.drew
          refine wp_region_noPanic ?_
          refine wp_region_held_drew (S := (fun w' => w'.cell? ⟨ibx, 0, none⟩ = some (.bool leaf) ∧ w'.cell? ⟨ibx, 1, none⟩ = some (.slice (some ad) M c) ∧ w'.cell? ⟨ibx, 2, none⟩ = some (.slice (some bd) M d) ∧ w'.cell? ⟨ibz, 0, none⟩ = some (.bool leaf) ∧ w'.cell? ⟨ibz, 1, none⟩ = some (.slice (some (ad.add M)) (ks.length - M) (c - M)) ∧ w'.cell? ⟨ibz, 2, none⟩ = some (.slice (some (bd.add M)) (vs.length - M) (d - M)))) (by kernel_rfl) ?hS0 (fun hHeld => ?_)
          case hS0 => (have q0 := bx.cell 0; have q1 := bx.cell 1; have q2 := bx.cell 2; have q3 := bz.cell 0; have q4 := bz.cell 1; have q5 := bz.cell 2; simp at q0 q1 q2 q3 q4 q5; exact ⟨q0, q1, q2, q3, q4, q5⟩)
          generalize hZ : w36.drew = wd37 at *
          clear hZ
          refine wpAnyH_take (i := 0) (oi := ⟨some 52, _, _, _, _, _⟩) (v := ?_) rfl (by kernel_rfl) (by kernel_rfl) (by kernel_rfl) (fun _ _ _ h => h) (Or.inl ⟨by kernel_rfl, ?_⟩) hHeld ?_
          rotate_left
          · (intro w hSw; (try dsimp only at hSw); go_simp; try with_reducible rfl)
          try simp only [Act.put, List.getElem_toArray, List.getElem_cons_succ, List.getElem_cons_zero, List.setIfInBounds_toArray, List.set_cons_zero, List.set_cons_succ]
          refine wpAnyH_take (i := 2) (oi := ⟨some 54, _, _, _, _, _⟩) (v := ?_) rfl (by kernel_rfl) (by kernel_rfl) (by kernel_rfl) (fun _ _ _ h => h) (Or.inl ⟨by kernel_rfl, ?_⟩) hHeld ?_
          rotate_left
          · (intro w hSw; (try dsimp only at hSw); go_simp; try with_reducible rfl)
          try simp only [Act.put, List.getElem_toArray, List.getElem_cons_succ, List.getElem_cons_zero, List.setIfInBounds_toArray, List.set_cons_zero, List.set_cons_succ]
          refine wpAnyH_ready (rs := [1]) (by kernel_rfl) (by simp) ?_
          refine (AllReadyH.cons rfl (fun K hK => ?_) AllReadyH.nil)
          try rw [if_pos (by kernel_rfl)]
          go_simp
          go_at_call 20
          refine (rsize_to HSX.out _ _ nx (by simp only [List.length_take]; omega) (by simp only [List.length_take]; omega)).mono ?_
          rintro e w38 ⟨rfl, k38⟩
          have b0 := b0.below k38 b0.lt
          have r0 := r0.below k38 r0.lt
          have r1 := r1.below k38 r1.lt
          have ba := ba.below k38 ba.lt
          have bb := bb.below k38 bb.lt
          have bx := bx.below k38 bx.lt
          have bz := bz.below k38 bz.lt
          have nx := nx.below k38
          have ny := ny.below k38
          have bel := hthen bel k38
          clear k38
          try dsimp only
          refine hK.out _ _ (by have q0 := bx.cell 0; have q1 := bx.cell 1; have q2 := bx.cell 2; have q3 := bz.cell 0; have q4 := bz.cell 1; have q5 := bz.cell 2; simp at q0 q1 q2 q3 q4 q5; exact ⟨q0, q1, q2, q3, q4, q5⟩) (fun hHeld => ?_)
          clear hK K
          try simp only [Act.put, List.getElem_toArray, List.getElem_cons_succ, List.getElem_cons_zero, List.setIfInBounds_toArray, List.set_cons_zero, List.set_cons_succ]
          refine wpAnyH_ready (rs := [3]) (by kernel_rfl) (by simp) ?_
          refine (AllReadyH.cons rfl (fun K hK => ?_) AllReadyH.nil)
          try rw [if_pos (by kernel_rfl)]
          go_simp
          go_at_call 20
          refine (rsize_to HSY.out _ _ ny (by simp only [List.length_drop]; omega) (by simp only [List.length_drop]; omega)).mono ?_
          rintro e w39 ⟨rfl, k39⟩
          have b0 := b0.below k39 b0.lt
          have r0 := r0.below k39 r0.lt
          have r1 := r1.below k39 r1.lt
          have ba := ba.below k39 ba.lt
          have bb := bb.below k39 bb.lt
          have bx := bx.below k39 bx.lt
          have bz := bz.below k39 bz.lt
          have nx := nx.below k39
          have ny := ny.below k39
          have bel := hthen bel k39
          clear k39
          try dsimp only
          refine hK.out _ _ (by have q0 := bx.cell 0; have q1 := bx.cell 1; have q2 := bx.cell 2; have q3 := bz.cell 0; have q4 := bz.cell 1; have q5 := bz.cell 2; simp at q0 q1 q2 q3 q4 q5; exact ⟨q0, q1, q2, q3, q4, q5⟩) (fun hHeld => ?_)
          clear hK K
          try simp only [Act.put, List.getElem_toArray, List.getElem_cons_succ, List.getElem_cons_zero, List.setIfInBounds_toArray, List.set_cons_zero, List.set_cons_succ]
          refine wpAnyH_take (i := 4) (oi := ⟨some 56, _, _, _, _, _⟩) (v := ?_) rfl (by kernel_rfl) (by kernel_rfl) (by kernel_rfl) (fun _ _ _ h => h) (Or.inl ⟨by kernel_rfl, ?_⟩) hHeld ?_
          rotate_left
          · (intro w hSw; (try dsimp only at hSw); go_simp; try with_reducible rfl)
          try simp only [Act.put, List.getElem_toArray, List.getElem_cons_succ, List.getElem_cons_zero, List.setIfInBounds_toArray, List.set_cons_zero, List.set_cons_succ]
          refine wpAnyH_take (i := 5) (oi := ⟨some 11, _, _, _, _, _⟩) (v := ?_) rfl (by kernel_rfl) (by kernel_rfl) (by kernel_rfl) (fun _ _ _ h => h) (Or.inl ⟨by kernel_rfl, ?_⟩) hHeld ?_
          rotate_left
          · (intro w hSw; (try dsimp only at hSw); go_simp; try with_reducible rfl)
          try simp only [Act.put, List.getElem_toArray, List.getElem_cons_succ, List.getElem_cons_zero, List.setIfInBounds_toArray, List.set_cons_zero, List.set_cons_succ]
          refine wpAnyH_done (by kernel_rfl) ?_ _
          refine NoPanic.normal ?_
          by_cases hM : M = 1
          · have qM : ((M : Int) == 1) = true := by simp [hM]
            have hrb : rBest (cutMax ⟨leaf, ks, vs⟩) M = M := by subst hM; rfl
            have HRB := Lib.hid hrb
            clear hrb hM
            have b0c0 := b0.cell 0
            have b0c1 := b0.cell 1
            have b0c2 := b0.cell 2
            simp at b0c0 b0c1 b0c2
            have b0lt := b0.lt
            have r0c0 := r0.cell 0
            have r0c1 := r0.cell 1
            have r0c2 := r0.cell 2
            simp at r0c0 r0c1 r0c2
            have r0lt := r0.lt
            have r1c0 := r1.cell 0
            have r1c1 := r1.cell 1
            have r1c2 := r1.cell 2
            simp at r1c0 r1c1 r1c2
            have r1lt := r1.lt
            have bac0 := ba.cell 0
            have bac1 := ba.cell 1
            have bac2 := ba.cell 2
            simp at bac0 bac1 bac2
            have balt := ba.lt
            have bbc0 := bb.cell 0
            have bbc1 := bb.cell 1
            have bbc2 := bb.cell 2
            simp at bbc0 bbc1 bbc2
            have bblt := bb.lt
            have bxc0 := bx.cell 0
            have bxc1 := bx.cell 1
            have bxc2 := bx.cell 2
            simp at bxc0 bxc1 bxc2
            have bxlt := bx.lt
            have bzc0 := bz.cell 0
            have bzc1 := bz.cell 1
            have bzc2 := bz.cell 2
            simp at bzc0 bzc1 bzc2
            have bzlt := bz.lt
            have baf0 := ba.frozen 0
            have baf1 := ba.frozen 1
            have baf2 := ba.frozen 2
            have bbf0 := bb.frozen 0
            have bbf1 := bb.frozen 1
            have bbf2 := bb.frozen 2
            go_upto_region 14 with fail
            clear b0c0 b0c1 b0c2 b0lt r0c0 r0c1 r0c2 r0lt r1c0 r1c1 r1c2 r1lt bac0 bac1 bac2 balt bbc0 bbc1 bbc2 bblt bxc0 bxc1 bxc2 bxlt bzc0 bzc1 bzc2 bzlt
            clear baf0 baf1 baf2 bbf0 bbf1 bbf2
            have b0 := (((b0.far (p := ⟨iba, 0, none⟩) nb0ba (.bool leaf)).far (p := ⟨iba, 1, none⟩) nb0ba (.slice (some ad) M c)).far (p := ⟨iba, 2, none⟩) nb0ba (.slice (some bd) M d))
            have r0 := (((r0.far (p := ⟨iba, 0, none⟩) nr0ba (.bool leaf)).far (p := ⟨iba, 1, none⟩) nr0ba (.slice (some ad) M c)).far (p := ⟨iba, 2, none⟩) nr0ba (.slice (some bd) M d))
            have r1 := (((r1.far (p := ⟨iba, 0, none⟩) nr1ba (.bool leaf)).far (p := ⟨iba, 1, none⟩) nr1ba (.slice (some ad) M c)).far (p := ⟨iba, 2, none⟩) nr1ba (.slice (some bd) M d))
            have bb := (((bb.far (p := ⟨iba, 0, none⟩) (Ne.symm nbabb) (.bool leaf)).far (p := ⟨iba, 1, none⟩) (Ne.symm nbabb) (.slice (some ad) M c)).far (p := ⟨iba, 2, none⟩) (Ne.symm nbabb) (.slice (some bd) M d))
            have bx := (((bx.far (p := ⟨iba, 0, none⟩) (Ne.symm nbabx) (.bool leaf)).far (p := ⟨iba, 1, none⟩) (Ne.symm nbabx) (.slice (some ad) M c)).far (p := ⟨iba, 2, none⟩) (Ne.symm nbabx) (.slice (some bd) M d))
            have bz := (((bz.far (p := ⟨iba, 0, none⟩) (Ne.symm nbabz) (.bool leaf)).far (p := ⟨iba, 1, none⟩) (Ne.symm nbabz) (.slice (some ad) M c)).far (p := ⟨iba, 2, none⟩) (Ne.symm nbabz) (.slice (some bd) M d))
            have ba := ba.put3 (.bool leaf) (.slice (some ad) M c) (.slice (some bd) M d)
            have bel := (below_at (below_at (below_at bel oba 0 (.bool leaf)) oba 1 (.slice (some ad) M c)) oba 2 (.slice (some bd) M d))
            obtain ⟨w40, hX⟩ : ∃ x, (((w39.setCell ⟨iba, 0, none⟩ (.bool leaf)).setCell ⟨iba, 1, none⟩ (.slice (some ad) M c)).setCell ⟨iba, 2, none⟩ (.slice (some bd) M d)) = x := ⟨_, rfl⟩
            rw [hX] at b0 r0 r1 ba bb bx bz bel ⊢
            clear hX
            have b0c0 := b0.cell 0
            have b0c1 := b0.cell 1
            have b0c2 := b0.cell 2
            simp at b0c0 b0c1 b0c2
            have b0lt := b0.lt
            have r0c0 := r0.cell 0
            have r0c1 := r0.cell 1
            have r0c2 := r0.cell 2
            simp at r0c0 r0c1 r0c2
            have r0lt := r0.lt
            have r1c0 := r1.cell 0
            have r1c1 := r1.cell 1
            have r1c2 := r1.cell 2
            simp at r1c0 r1c1 r1c2
            have r1lt := r1.lt
            have bac0 := ba.cell 0
            have bac1 := ba.cell 1
            have bac2 := ba.cell 2
            simp at bac0 bac1 bac2
            have balt := ba.lt
            have bbc0 := bb.cell 0
            have bbc1 := bb.cell 1
            have bbc2 := bb.cell 2
            simp at bbc0 bbc1 bbc2
            have bblt := bb.lt
            have bxc0 := bx.cell 0
            have bxc1 := bx.cell 1
            have bxc2 := bx.cell 2
            simp at bxc0 bxc1 bxc2
            have bxlt := bx.lt
            have bzc0 := bz.cell 0
            have bzc1 := bz.cell 1
            have bzc2 := bz.cell 2
            simp at bzc0 bzc1 bzc2
            have bzlt := bz.lt
            have bbf0 := bb.frozen 0
            have bbf1 := bb.frozen 1
            have bbf2 := bb.frozen 2
            go_upto_region 15 with fail
            clear b0c0 b0c1 b0c2 b0lt r0c0 r0c1 r0c2 r0lt r1c0 r1c1 r1c2 r1lt bac0 bac1 bac2 balt bbc0 bbc1 bbc2 bblt bxc0 bxc1 bxc2 bxlt bzc0 bzc1 bzc2 bzlt
            clear bbf0 bbf1 bbf2
            have b0 := (((b0.far (p := ⟨ibb, 0, none⟩) nb0bb (.bool leaf)).far (p := ⟨ibb, 1, none⟩) nb0bb (.slice (some (ad.add M)) (ks.length - M) (c - M))).far (p := ⟨ibb, 2, none⟩) nb0bb (.slice (some (bd.add M)) (vs.length - M) (d - M)))
            have r0 := (((r0.far (p := ⟨ibb, 0, none⟩) nr0bb (.bool leaf)).far (p := ⟨ibb, 1, none⟩) nr0bb (.slice (some (ad.add M)) (ks.length - M) (c - M))).far (p := ⟨ibb, 2, none⟩) nr0bb (.slice (some (bd.add M)) (vs.length - M) (d - M)))
            have r1 := (((r1.far (p := ⟨ibb, 0, none⟩) nr1bb (.bool leaf)).far (p := ⟨ibb, 1, none⟩) nr1bb (.slice (some (ad.add M)) (ks.length - M) (c - M))).far (p := ⟨ibb, 2, none⟩) nr1bb (.slice (some (bd.add M)) (vs.length - M) (d - M)))
            have ba := (((ba.far (p := ⟨ibb, 0, none⟩) nbabb (.bool leaf)).far (p := ⟨ibb, 1, none⟩) nbabb (.slice (some (ad.add M)) (ks.length - M) (c - M))).far (p := ⟨ibb, 2, none⟩) nbabb (.slice (some (bd.add M)) (vs.length - M) (d - M)))
            have bx := (((bx.far (p := ⟨ibb, 0, none⟩) (Ne.symm nbbbx) (.bool leaf)).far (p := ⟨ibb, 1, none⟩) (Ne.symm nbbbx) (.slice (some (ad.add M)) (ks.length - M) (c - M))).far (p := ⟨ibb, 2, none⟩) (Ne.symm nbbbx) (.slice (some (bd.add M)) (vs.length - M) (d - M)))
            have bz := (((bz.far (p := ⟨ibb, 0, none⟩) (Ne.symm nbbbz) (.bool leaf)).far (p := ⟨ibb, 1, none⟩) (Ne.symm nbbbz) (.slice (some (ad.add M)) (ks.length - M) (c - M))).far (p := ⟨ibb, 2, none⟩) (Ne.symm nbbbz) (.slice (some (bd.add M)) (vs.length - M) (d - M)))
            have bb := bb.put3 (.bool leaf) (.slice (some (ad.add M)) (ks.length - M) (c - M)) (.slice (some (bd.add M)) (vs.length - M) (d - M))
            have bel := (below_at (below_at (below_at bel obb 0 (.bool leaf)) obb 1 (.slice (some (ad.add M)) (ks.length - M) (c - M))) obb 2 (.slice (some (bd.add M)) (vs.length - M) (d - M)))
            obtain ⟨w41, hX⟩ : ∃ x, (((w40.setCell ⟨ibb, 0, none⟩ (.bool leaf)).setCell ⟨ibb, 1, none⟩ (.slice (some (ad.add M)) (ks.length - M) (c - M))).setCell ⟨ibb, 2, none⟩ (.slice (some (bd.add M)) (vs.length - M) (d - M))) = x := ⟨_, rfl⟩
            rw [hX] at b0 r0 r1 ba bb bx bz bel ⊢
            clear hX
            go_wp2
            go_roundw
            case rel => exact ⟨M + 1, _, _, _, _, _, _, _, _, _, _, _, _, _, _, _, by omega, by omega, by go_num, rfl, Lib.hid (fun _ => by rw [Nat.add_sub_cancel, HRB.out]; refine ⟨?_, nx9.out, ny9.out⟩; rw [HCM.out]; omega), bel, b0, r0, r1, ba, bb⟩
            case measure => simp [intOf]; omega
          · have qM : ((M : Int) == 1) = false := beq_eq_false_iff_ne.2 (by omega)
            obtain ⟨hB1, hB2, hB3⟩ := HB.out (by omega)
            by_cases hK : max (SX : Int) (SY : Int) < B
            · have qK : decide (max (SX : Int) (SY : Int) < B) = true := decide_eq_true hK
              have hrb : rBest (cutMax ⟨leaf, ks, vs⟩) M = M := by
                obtain ⟨m, rfl⟩ : ∃ m, M = m + 1 := ⟨M - 1, by omega⟩
                rw [Nat.add_sub_cancel] at hB1
                rw [rBest, if_pos]
                rw [HCM.out]
                simp
                right
                omega
              have HRB := Lib.hid hrb
              clear hrb hM hK hB1 hB2 hB3
              have b0c0 := b0.cell 0
              have b0c1 := b0.cell 1
              have b0c2 := b0.cell 2
              simp at b0c0 b0c1 b0c2
              have b0lt := b0.lt
              have r0c0 := r0.cell 0
              have r0c1 := r0.cell 1
              have r0c2 := r0.cell 2
              simp at r0c0 r0c1 r0c2
              have r0lt := r0.lt
              have r1c0 := r1.cell 0
              have r1c1 := r1.cell 1
              have r1c2 := r1.cell 2
              simp at r1c0 r1c1 r1c2
              have r1lt := r1.lt
              have bac0 := ba.cell 0
              have bac1 := ba.cell 1
              have bac2 := ba.cell 2
              simp at bac0 bac1 bac2
              have balt := ba.lt
              have bbc0 := bb.cell 0
              have bbc1 := bb.cell 1
              have bbc2 := bb.cell 2
              simp at bbc0 bbc1 bbc2
              have bblt := bb.lt
              have bxc0 := bx.cell 0
              have bxc1 := bx.cell 1
              have bxc2 := bx.cell 2
              simp at bxc0 bxc1 bxc2
              have bxlt := bx.lt
              have bzc0 := bz.cell 0
              have bzc1 := bz.cell 1
              have bzc2 := bz.cell 2
              simp at bzc0 bzc1 bzc2
              have bzlt := bz.lt
              have baf0 := ba.frozen 0
              have baf1 := ba.frozen 1
              have baf2 := ba.frozen 2
              have bbf0 := bb.frozen 0
              have bbf1 := bb.frozen 1
              have bbf2 := bb.frozen 2
              go_upto_region 14 with fail
              clear b0c0 b0c1 b0c2 b0lt r0c0 r0c1 r0c2 r0lt r1c0 r1c1 r1c2 r1lt bac0 bac1 bac2 balt bbc0 bbc1 bbc2 bblt bxc0 bxc1 bxc2 bxlt bzc0 bzc1 bzc2 bzlt
              clear baf0 baf1 baf2 bbf0 bbf1 bbf2
              have b0 := (((b0.far (p := ⟨iba, 0, none⟩) nb0ba (.bool leaf)).far (p := ⟨iba, 1, none⟩) nb0ba (.slice (some ad) M c)).far (p := ⟨iba, 2, none⟩) nb0ba (.slice (some bd) M d))
              have r0 := (((r0.far (p := ⟨iba, 0, none⟩) nr0ba (.bool leaf)).far (p := ⟨iba, 1, none⟩) nr0ba (.slice (some ad) M c)).far (p := ⟨iba, 2, none⟩) nr0ba (.slice (some bd) M d))
              have r1 := (((r1.far (p := ⟨iba, 0, none⟩) nr1ba (.bool leaf)).far (p := ⟨iba, 1, none⟩) nr1ba (.slice (some ad) M c)).far (p := ⟨iba, 2, none⟩) nr1ba (.slice (some bd) M d))
              have bb := (((bb.far (p := ⟨iba, 0, none⟩) (Ne.symm nbabb) (.bool leaf)).far (p := ⟨iba, 1, none⟩) (Ne.symm nbabb) (.slice (some ad) M c)).far (p := ⟨iba, 2, none⟩) (Ne.symm nbabb) (.slice (some bd) M d))
              have bx := (((bx.far (p := ⟨iba, 0, none⟩) (Ne.symm nbabx) (.bool leaf)).far (p := ⟨iba, 1, none⟩) (Ne.symm nbabx) (.slice (some ad) M c)).far (p := ⟨iba, 2, none⟩) (Ne.symm nbabx) (.slice (some bd) M d))
              have bz := (((bz.far (p := ⟨iba, 0, none⟩) (Ne.symm nbabz) (.bool leaf)).far (p := ⟨iba, 1, none⟩) (Ne.symm nbabz) (.slice (some ad) M c)).far (p := ⟨iba, 2, none⟩) (Ne.symm nbabz) (.slice (some bd) M d))
              have ba := ba.put3 (.bool leaf) (.slice (some ad) M c) (.slice (some bd) M d)
              have bel := (below_at (below_at (below_at bel oba 0 (.bool leaf)) oba 1 (.slice (some ad) M c)) oba 2 (.slice (some bd) M d))
              obtain ⟨w40, hX⟩ : ∃ x, (((w39.setCell ⟨iba, 0, none⟩ (.bool leaf)).setCell ⟨iba, 1, none⟩ (.slice (some ad) M c)).setCell ⟨iba, 2, none⟩ (.slice (some bd) M d)) = x := ⟨_, rfl⟩
              rw [hX] at b0 r0 r1 ba bb bx bz bel ⊢
              clear hX
              have b0c0 := b0.cell 0
              have b0c1 := b0.cell 1
              have b0c2 := b0.cell 2
              simp at b0c0 b0c1 b0c2
              have b0lt := b0.lt
              have r0c0 := r0.cell 0
              have r0c1 := r0.cell 1
              have r0c2 := r0.cell 2
              simp at r0c0 r0c1 r0c2
              have r0lt := r0.lt
              have r1c0 := r1.cell 0
              have r1c1 := r1.cell 1
              have r1c2 := r1.cell 2
              simp at r1c0 r1c1 r1c2
              have r1lt := r1.lt
              have bac0 := ba.cell 0
              have bac1 := ba.cell 1
              have bac2 := ba.cell 2
              simp at bac0 bac1 bac2
              have balt := ba.lt
              have bbc0 := bb.cell 0
              have bbc1 := bb.cell 1
              have bbc2 := bb.cell 2
              simp at bbc0 bbc1 bbc2
              have bblt := bb.lt
              have bxc0 := bx.cell 0
              have bxc1 := bx.cell 1
              have bxc2 := bx.cell 2
              simp at bxc0 bxc1 bxc2
              have bxlt := bx.lt
              have bzc0 := bz.cell 0
              have bzc1 := bz.cell 1
              have bzc2 := bz.cell 2
              simp at bzc0 bzc1 bzc2
              have bzlt := bz.lt
              have bbf0 := bb.frozen 0
              have bbf1 := bb.frozen 1
              have bbf2 := bb.frozen 2
              go_upto_region 15 with fail
              clear b0c0 b0c1 b0c2 b0lt r0c0 r0c1 r0c2 r0lt r1c0 r1c1 r1c2 r1lt bac0 bac1 bac2 balt bbc0 bbc1 bbc2 bblt bxc0 bxc1 bxc2 bxlt bzc0 bzc1 bzc2 bzlt
              clear bbf0 bbf1 bbf2
              have b0 := (((b0.far (p := ⟨ibb, 0, none⟩) nb0bb (.bool leaf)).far (p := ⟨ibb, 1, none⟩) nb0bb (.slice (some (ad.add M)) (ks.length - M) (c - M))).far (p := ⟨ibb, 2, none⟩) nb0bb (.slice (some (bd.add M)) (vs.length - M) (d - M)))
              have r0 := (((r0.far (p := ⟨ibb, 0, none⟩) nr0bb (.bool leaf)).far (p := ⟨ibb, 1, none⟩) nr0bb (.slice (some (ad.add M)) (ks.length - M) (c - M))).far (p := ⟨ibb, 2, none⟩) nr0bb (.slice (some (bd.add M)) (vs.length - M) (d - M)))
              have r1 := (((r1.far (p := ⟨ibb, 0, none⟩) nr1bb (.bool leaf)).far (p := ⟨ibb, 1, none⟩) nr1bb (.slice (some (ad.add M)) (ks.length - M) (c - M))).far (p := ⟨ibb, 2, none⟩) nr1bb (.slice (some (bd.add M)) (vs.length - M) (d - M)))
              have ba := (((ba.far (p := ⟨ibb, 0, none⟩) nbabb (.bool leaf)).far (p := ⟨ibb, 1, none⟩) nbabb (.slice (some (ad.add M)) (ks.length - M) (c - M))).far (p := ⟨ibb, 2, none⟩) nbabb (.slice (some (bd.add M)) (vs.length - M) (d - M)))
              have bx := (((bx.far (p := ⟨ibb, 0, none⟩) (Ne.symm nbbbx) (.bool leaf)).far (p := ⟨ibb, 1, none⟩) (Ne.symm nbbbx) (.slice (some (ad.add M)) (ks.length - M) (c - M))).far (p := ⟨ibb, 2, none⟩) (Ne.symm nbbbx) (.slice (some (bd.add M)) (vs.length - M) (d - M)))
              have bz := (((bz.far (p := ⟨ibb, 0, none⟩) (Ne.symm nbbbz) (.bool leaf)).far (p := ⟨ibb, 1, none⟩) (Ne.symm nbbbz) (.slice (some (ad.add M)) (ks.length - M) (c - M))).far (p := ⟨ibb, 2, none⟩) (Ne.symm nbbbz) (.slice (some (bd.add M)) (vs.length - M) (d - M)))
              have bb := bb.put3 (.bool leaf) (.slice (some (ad.add M)) (ks.length - M) (c - M)) (.slice (some (bd.add M)) (vs.length - M) (d - M))
              have bel := (below_at (below_at (below_at bel obb 0 (.bool leaf)) obb 1 (.slice (some (ad.add M)) (ks.length - M) (c - M))) obb 2 (.slice (some (bd.add M)) (vs.length - M) (d - M)))
              obtain ⟨w41, hX⟩ : ∃ x, (((w40.setCell ⟨ibb, 0, none⟩ (.bool leaf)).setCell ⟨ibb, 1, none⟩ (.slice (some (ad.add M)) (ks.length - M) (c - M))).setCell ⟨ibb, 2, none⟩ (.slice (some (bd.add M)) (vs.length - M) (d - M))) = x := ⟨_, rfl⟩
              rw [hX] at b0 r0 r1 ba bb bx bz bel ⊢
              clear hX
              go_wp2
              go_roundw
              case rel => exact ⟨M + 1, _, _, _, _, _, _, _, _, _, _, _, _, _, _, _, by omega, by omega, by go_num, rfl, Lib.hid (fun _ => by rw [Nat.add_sub_cancel, HRB.out]; refine ⟨?_, nx9.out, ny9.out⟩; rw [HCM.out]; omega), bel, b0, r0, r1, ba, bb⟩
              case measure => simp [intOf]; omega
            · have qK : decide (max (SX : Int) (SY : Int) < B) = false := decide_eq_false hK
              have hrb : rBest (cutMax ⟨leaf, ks, vs⟩) M = rBest (cutMax ⟨leaf, ks, vs⟩) (M - 1) := by
                obtain ⟨m, rfl⟩ : ∃ m, M = m + 1 := ⟨M - 1, by omega⟩
                rw [Nat.add_sub_cancel] at hB1
                rw [Nat.add_sub_cancel, rBest, if_neg]
                rw [HCM.out]
                simp
                omega
              have HRB := Lib.hid hrb
              have HB1 := Lib.hid hB1
              have HB2 := Lib.hid hB2
              have HB3 := Lib.hid hB3
              clear hrb hM hK hB1 hB2 hB3
              go_wp2
              go_roundw
              case rel => exact ⟨M + 1, _, _, _, _, _, _, _, _, _, _, _, _, _, _, _, by omega, by omega, by go_num, rfl, Lib.hid (fun _ => by rw [Nat.add_sub_cancel, HRB.out]; exact ⟨HB1.out, HB2.out, HB3.out⟩), bel, b0, r0, r1, ba, bb⟩
              case measure => simp [intOf]; omega

        · obtain rfl : M = ks.length := by omega
          have q1 : decide ((ks.length : Int) < ks.length) = false := by simp
          have b0c0 := b0.cell 0
          have b0c1 := b0.cell 1
          have b0c2 := b0.cell 2
          simp at b0c0 b0c1 b0c2
          have b0lt := b0.lt
          have r0c0 := r0.cell 0
          have r0c1 := r0.cell 1
          have r0c2 := r0.cell 2
          simp at r0c0 r0c1 r0c2
          have r0lt := r0.lt
          have r1c0 := r1.cell 0
          have r1c1 := r1.cell 1
          have r1c2 := r1.cell 2
          simp at r1c0 r1c1 r1c2
          have r1lt := r1.lt
          have bac0 := ba.cell 0
          have bac1 := ba.cell 1
          have bac2 := ba.cell 2
          simp at bac0 bac1 bac2
          have balt := ba.lt
          have bbc0 := bb.cell 0
          have bbc1 := bb.cell 1
          have bbc2 := bb.cell 2
          simp at bbc0 bbc1 bbc2
          have bblt := bb.lt
          go_wp2_with fail
          clear b0c0 b0c1 b0c2 b0lt r0c0 r0c1 r0c2 r0lt r1c0 r1c1 r1c2 r1lt bac0 bac1 bac2 balt bbc0 bbc1 bbc2 bblt
          have bel := bel.drew
          have b0 := b0.drew
          have r0 := r0.drew
          have r1 := r1.drew
          have ba := ba.drew
          have bb := bb.drew
          refine wp_region_noPanic ?_
          refine wp_region_held_drew (S := (fun w' => w'.cell? ⟨iba, 0, none⟩ = some (.bool la) ∧ w'.cell? ⟨iba, 1, none⟩ = some (.slice A1 a1 c1) ∧ w'.cell? ⟨iba, 2, none⟩ = some (.slice C1 e1 d1) ∧ w'.cell? ⟨ibb, 0, none⟩ = some (.bool lb) ∧ w'.cell? ⟨ibb, 1, none⟩ = some (.slice A2 a2 c2) ∧ w'.cell? ⟨ibb, 2, none⟩ = some (.slice C2 e2 d2))) (by kernel_rfl) ?hS0 (fun hHeld => ?_)
          case hS0 => (have q0 := ba.cell 0; have q1 := ba.cell 1; have q2 := ba.cell 2; have q3 := bb.cell 0; have q4 := bb.cell 1; have q5 := bb.cell 2; simp at q0 q1 q2 q3 q4 q5; exact ⟨q0, q1, q2, q3, q4, q5⟩)
          generalize hZ : wr.drew = wd61 at *
          clear hZ
          refine wpAnyH_take (i := 0) (oi := ⟨some 67, _, _, _, _, _⟩) (v := ?_) rfl (by kernel_rfl) (by kernel_rfl) (by kernel_rfl) (fun _ _ _ h => h) (Or.inl ⟨by kernel_rfl, ?_⟩) hHeld ?_
          rotate_left
          · (intro w hSw; (try dsimp only at hSw); go_simp; try with_reducible rfl)
          try simp only [Act.put, List.getElem_toArray, List.getElem_cons_succ, List.getElem_cons_zero, List.setIfInBounds_toArray, List.set_cons_zero, List.set_cons_succ]
          refine wpAnyH_take (i := 1) (oi := ⟨some 68, _, _, _, _, _⟩) (v := ?_) rfl (by kernel_rfl) (by kernel_rfl) (by kernel_rfl) (fun _ _ _ h => h) (Or.inl ⟨by kernel_rfl, ?_⟩) hHeld ?_
          rotate_left
          · (intro w hSw; (try dsimp only at hSw); go_simp; try with_reducible rfl)
          try simp only [Act.put, List.getElem_toArray, List.getElem_cons_succ, List.getElem_cons_zero, List.setIfInBounds_toArray, List.set_cons_zero, List.set_cons_succ]
          refine wpAnyH_ready (rs := [2]) (by kernel_rfl) (by simp) ?_
          refine (AllReadyH.cons rfl (fun K hK => ?_) AllReadyH.nil)
          have r0z0 := r0.cell 0
          have r0f0 := r0.frozen 0
          have r0z1 := r0.cell 1
          have r0f1 := r0.frozen 1
          have r0z2 := r0.cell 2
          have r0f2 := r0.frozen 2
          simp at r0z0 r0z1 r0z2
          try rw [if_pos (by kernel_rfl)]
          go_simp
          have b0 := (((b0.far (p := ⟨ir0, 0, none⟩) nb0r0 (.bool la)).far (p := ⟨ir0, 1, none⟩) nb0r0 (.slice A1 a1 c1)).far (p := ⟨ir0, 2, none⟩) nb0r0 (.slice C1 e1 d1))
          have r1 := (((r1.far (p := ⟨ir0, 0, none⟩) (Ne.symm nr0r1) (.bool la)).far (p := ⟨ir0, 1, none⟩) (Ne.symm nr0r1) (.slice A1 a1 c1)).far (p := ⟨ir0, 2, none⟩) (Ne.symm nr0r1) (.slice C1 e1 d1))
          have ba := (((ba.far (p := ⟨ir0, 0, none⟩) (Ne.symm nr0ba) (.bool la)).far (p := ⟨ir0, 1, none⟩) (Ne.symm nr0ba) (.slice A1 a1 c1)).far (p := ⟨ir0, 2, none⟩) (Ne.symm nr0ba) (.slice C1 e1 d1))
          have bb := (((bb.far (p := ⟨ir0, 0, none⟩) (Ne.symm nr0bb) (.bool la)).far (p := ⟨ir0, 1, none⟩) (Ne.symm nr0bb) (.slice A1 a1 c1)).far (p := ⟨ir0, 2, none⟩) (Ne.symm nr0bb) (.slice C1 e1 d1))
          have r0 := r0.put3 (.bool la) (.slice A1 a1 c1) (.slice C1 e1 d1)
          have bel := (below_at (below_at (below_at bel or0 0 (.bool la)) or0 1 (.slice A1 a1 c1)) or0 2 (.slice C1 e1 d1))
          obtain ⟨w62, hX⟩ : ∃ x, (((wd61.setCell ⟨ir0, 0, none⟩ (.bool la)).setCell ⟨ir0, 1, none⟩ (.slice A1 a1 c1)).setCell ⟨ir0, 2, none⟩ (.slice C1 e1 d1)) = x := ⟨_, rfl⟩
          rw [hX] at b0 r0 r1 ba bb bel ⊢
          clear hX r0z0 r0f0 r0z1 r0f1 r0z2 r0f2
          try dsimp only
          refine hK.out _ _ (by have q0 := ba.cell 0; have q1 := ba.cell 1; have q2 := ba.cell 2; have q3 := bb.cell 0; have q4 := bb.cell 1; have q5 := bb.cell 2; simp at q0 q1 q2 q3 q4 q5; exact ⟨q0, q1, q2, q3, q4, q5⟩) (fun hHeld => ?_)
          clear hK K
          try simp only [Act.put, List.getElem_toArray, List.getElem_cons_succ, List.getElem_cons_zero, List.setIfInBounds_toArray, List.set_cons_zero, List.set_cons_succ]
          refine wpAnyH_ready (rs := [3]) (by kernel_rfl) (by simp) ?_
          refine (AllReadyH.cons rfl (fun K hK => ?_) AllReadyH.nil)
          have r1z0 := r1.cell 0
          have r1f0 := r1.frozen 0
          have r1z1 := r1.cell 1
          have r1f1 := r1.frozen 1
          have r1z2 := r1.cell 2
          have r1f2 := r1.frozen 2
          simp at r1z0 r1z1 r1z2
          try rw [if_pos (by kernel_rfl)]
          go_simp
          have b0 := (((b0.far (p := ⟨ir1, 0, none⟩) nb0r1 (.bool lb)).far (p := ⟨ir1, 1, none⟩) nb0r1 (.slice A2 a2 c2)).far (p := ⟨ir1, 2, none⟩) nb0r1 (.slice C2 e2 d2))
          have r0 := (((r0.far (p := ⟨ir1, 0, none⟩) nr0r1 (.bool lb)).far (p := ⟨ir1, 1, none⟩) nr0r1 (.slice A2 a2 c2)).far (p := ⟨ir1, 2, none⟩) nr0r1 (.slice C2 e2 d2))
          have ba := (((ba.far (p := ⟨ir1, 0, none⟩) (Ne.symm nr1ba) (.bool lb)).far (p := ⟨ir1, 1, none⟩) (Ne.symm nr1ba) (.slice A2 a2 c2)).far (p := ⟨ir1, 2, none⟩) (Ne.symm nr1ba) (.slice C2 e2 d2))
          have bb := (((bb.far (p := ⟨ir1, 0, none⟩) (Ne.symm nr1bb) (.bool lb)).far (p := ⟨ir1, 1, none⟩) (Ne.symm nr1bb) (.slice A2 a2 c2)).far (p := ⟨ir1, 2, none⟩) (Ne.symm nr1bb) (.slice C2 e2 d2))
          have r1 := r1.put3 (.bool lb) (.slice A2 a2 c2) (.slice C2 e2 d2)
          have bel := (below_at (below_at (below_at bel or1 0 (.bool lb)) or1 1 (.slice A2 a2 c2)) or1 2 (.slice C2 e2 d2))
          obtain ⟨w63, hX⟩ : ∃ x, (((w62.setCell ⟨ir1, 0, none⟩ (.bool lb)).setCell ⟨ir1, 1, none⟩ (.slice A2 a2 c2)).setCell ⟨ir1, 2, none⟩ (.slice C2 e2 d2)) = x := ⟨_, rfl⟩
          rw [hX] at b0 r0 r1 ba bb bel ⊢
          clear hX r1z0 r1f0 r1z1 r1f1 r1z2 r1f2
          try dsimp only
          refine hK.out _ _ (by have q0 := ba.cell 0; have q1 := ba.cell 1; have q2 := ba.cell 2; have q3 := bb.cell 0; have q4 := bb.cell 1; have q5 := bb.cell 2; simp at q0 q1 q2 q3 q4 q5; exact ⟨q0, q1, q2, q3, q4, q5⟩) (fun hHeld => ?_)
          clear hK K
          try simp only [Act.put, List.getElem_toArray, List.getElem_cons_succ, List.getElem_cons_zero, List.setIfInBounds_toArray, List.set_cons_zero, List.set_cons_succ]
          refine wpAnyH_take (i := 4) (oi := ⟨some 4, _, _, _, _, _⟩) (v := ?_) rfl (by kernel_rfl) (by kernel_rfl) (by kernel_rfl) (fun _ _ _ h => h) (Or.inl ⟨by kernel_rfl, ?_⟩) hHeld ?_
          rotate_left
          · (intro w hSw; (try dsimp only at hSw); go_simp; try with_reducible rfl)
          try simp only [Act.put, List.getElem_toArray, List.getElem_cons_succ, List.getElem_cons_zero, List.setIfInBounds_toArray, List.set_cons_zero, List.set_cons_succ]
          refine wpAnyH_done (by kernel_rfl) ?_ _
          refine NoPanic.normal ?_
          have t0 := r0.cell 0
          have t1 := r0.cell 1
          have t2 := r0.cell 2
          have t3 := r1.cell 0
          have t4 := r1.cell 1
          have t5 := r1.cell 2
          simp at t0 t1 t2 t3 t4 t5
          go_wp2
          refine bodyPost_ret (v := .tuple #[.agg #[.bool la, .slice A1 a1 c1, .slice C1 e1 d1], .agg #[.bool lb, .slice A2 a2 c2, .slice C2 e2 d2], .bool true]) ?h1 rfl ?h2
          case h1 => simp [results, Try.results26, go_sem, t0, t1, t2, t3, t4, t5]
          case h2 =>
            obtain ⟨_, hB2, hB3⟩ := HB.out (by omega)
            rw [HH.out, HF.out, HSN.out]
            exact ⟨_, _, rfl, hB2.below bel, hB3.below bel, bel⟩
end Go.Proofs.Ytiodeeliidhbgaa
