/- With of the reference 09: contract. -/
import Derived.Test.YtiodeeliidhbgaaNdV
namespace Go.Proofs.Ytiodeeliidhbgaa
open Go Go.RowKit
set_option linter.unusedSimpArgs false
set_option linter.unnecessarySimpa false
set_option linter.unusedVariables false

theorem rwi_laid (key x y : List UInt8) (ks xs ys : List (List UInt8)) : ∀ k, (rwi key x ks xs k).laid = (rwi key y ks ys k).laid
  | 0 => rfl
  | k + 1 => by
    rw [rwi, rwi, rwi_laid key x y ks xs ys k]
    split <;> rfl
theorem rwi_add {key : List UInt8} {ks : List (List UInt8)} {k : Nat} {b : Bool} (hb : Op.bytesLess key (ks.getD k []) = b) (x : List UInt8) (xs : List (List UInt8)) (hl : (rwi key x ks xs k).laid = true ∨ b = false) : rwi key x ks xs (k + 1) = ⟨(rwi key x ks xs k).laid, (rwi key x ks xs k).l ++ [xs.getD k []]⟩ := by
  rw [rwi, hb, if_neg]
  rcases hl with h | h
  · rw [h]; simp
  · rw [h]; simp
theorem rwi_put {key : List UInt8} {ks : List (List UInt8)} {k : Nat} (hb : Op.bytesLess key (ks.getD k []) = true) (x : List UInt8) (xs : List (List UInt8)) (hl : (rwi key x ks xs k).laid = false) : rwi key x ks xs (k + 1) = ⟨true, ((rwi key x ks xs k).l ++ [x]) ++ [xs.getD k []]⟩ := by
  rw [rwi, hb, hl]
  exact if_pos rfl
theorem less_above {X key : List UInt8} (h1 : Op.bytesLess X key = false) (h2 : X ≠ key) : Op.bytesLess key X = true := by
  cases hc : Op.bytesLess key X
  · exact absurd (bl_tri _ _ h1 hc) h2
  · rfl

set_option maxRecDepth 100000 in
set_option maxHeartbeats 8000000 in
theorem rwith_any (n : Nd) (v : Value) (key val : List UInt8) (w : World) (h : NdV w v n) (hk : n.keys.length ≤ 1000000) (hv : n.vals.length ≤ 1000000) :
    Calls Try.prog 28 #[v, .string (bstr key), .string (bstr val)] w fun e w' => ∃ u, e = .returned u ∧ NdV w' u (withN n key val) ∧ Below w.heap.size w w' := by
  rw [← rwith_eq]
  obtain ⟨vk, vv, rfl, h1, h2⟩ := h
  obtain ⟨A, c, rfl⟩ := h1.form
  obtain ⟨C, d, rfl⟩ := h2.form
  obtain ⟨leaf, ks, vs⟩ := n
  simp only at h1 h2 hk hv ⊢
  have n00 : NdV w (.agg #[.bool leaf, .slice A ks.length c, .slice C vs.length d]) ⟨leaf, ks, vs⟩ := ⟨_, _, rfl, h1, h2⟩
  have n0 := n00
  have bel : Below w.heap.size w w := Below.refl _ _
  have HS1 := Lib.hid h1
  have HS2 := Lib.hid h2
  clear h1 h2
  obtain ⟨i0, hi0, hz0, hz1, hz2⟩ := info_parts str_info
  obtain ⟨R, hR⟩ : ∃ R, rwithN ⟨leaf, ks, vs⟩ key val = R := ⟨_, rfl⟩
  rw [hR]
  have szv : (bstr val).size = val.length := by simp [bstr, ByteArray.size]
  cases hm : mayB ⟨leaf, ks, vs⟩
  · have HR : Hid (R = ⟨leaf, ks, vs⟩) := Lib.hid (by rw [← hR]; unfold rwithN; rw [hm]; rfl)
    have HM := Lib.hid hm
    clear hm hR
    go_enter Try.func28, Try.ntmps28
    go_wp2_with fail
    obtain ⟨w1, hw1⟩ : ∃ x, w.alloc (.cells #[.bool leaf, .slice A ks.length c, .slice C vs.length d] 24) = x := ⟨_, rfl⟩
    obtain ⟨ib0, hib0⟩ : ∃ i, w.heap.size = i := ⟨_, rfl⟩
    have b0 : Blk w1 ib0 24 #[.bool leaf, .slice A ks.length c, .slice C vs.length d] := by rw [← hw1, ← hib0]; exact Blk.new _ _ _
    have k1 : Below w.heap.size w w1 := by rw [← hw1]; exact (Below.refl _ _).alloc (Nat.le_refl _) _
    have zb0 : w1.heap.size = ib0 + 1 := by rw [← hw1, ← hib0]; simp
    rw [hw1, hib0]
    have ob0 : w.heap.size ≤ ib0 := by rw [← hib0]; exact bel.size
    have n0 := n0.below k1
    have bel := hthen bel k1
    clear k1
    clear hw1 hib0
    have b0c0 := b0.cell 0
    have b0c1 := b0.cell 1
    have b0c2 := b0.cell 2
    simp at b0c0 b0c1 b0c2
    have b0lt := b0.lt
    try (go_wp2_with fail)
    clear b0c0 b0c1 b0c2 b0lt
    obtain ⟨w2, hw2⟩ : ∃ x, w1.alloc (.cells #[.bool false, .slice none 0 0, .slice none 0 0] 24) = x := ⟨_, rfl⟩
    obtain ⟨ir0, hir0⟩ : ∃ i, w1.heap.size = i := ⟨_, rfl⟩
    have r0 : Blk w2 ir0 24 #[.bool false, .slice none 0 0, .slice none 0 0] := by rw [← hw2, ← hir0]; exact Blk.new _ _ _
    have k2 : Below w1.heap.size w1 w2 := by rw [← hw2]; exact (Below.refl _ _).alloc (Nat.le_refl _) _
    have zr0 : w2.heap.size = ir0 + 1 := by rw [← hw2, ← hir0]; simp
    rw [hw2, ← zb0, hir0]
    have or0 : w.heap.size ≤ ir0 := by rw [← hir0]; exact bel.size
    have nb0r0 : ib0 ≠ ir0 := by have := b0.lt; omega
    have b0 := b0.below k2 b0.lt
    have n0 := n0.below k2
    have bel := hthen bel k2
    clear k2
    clear hw2 hir0
    have b0c0 := b0.cell 0
    have b0c1 := b0.cell 1
    have b0c2 := b0.cell 2
    simp at b0c0 b0c1 b0c2
    have b0lt := b0.lt
    have r0c0 := r0.cell 0
    have r0c1 := r0.cell 1
    have r0c2 := r0.cell 2
    simp at r0c0 r0c1 r0c2
    have r0lt := r0.lt
    try (go_wp2_with fail)
    refine (rmay_to HM.out _ _ n0 hk hv).mono ?_
    rintro e w3 ⟨rfl, k3⟩
    clear b0c0 b0c1 b0c2 b0lt r0c0 r0c1 r0c2 r0lt
    have b0 := b0.below k3 b0.lt
    have r0 := r0.below k3 r0.lt
    have n0 := n0.below k3
    have bel := hthen bel k3
    clear k3
    have b0c0 := b0.cell 0
    have b0c1 := b0.cell 1
    have b0c2 := b0.cell 2
    simp at b0c0 b0c1 b0c2
    have b0lt := b0.lt
    have r0c0 := r0.cell 0
    have r0c1 := r0.cell 1
    have r0c2 := r0.cell 2
    simp at r0c0 r0c1 r0c2
    have r0lt := r0.lt
    have rf0 := r0.frozen 0
    have rf1 := r0.frozen 1
    have rf2 := r0.frozen 2
    go_wp2
    have xx := r0.put3 (.bool leaf) (.slice A ks.length c) (.slice C vs.length d)
    have xx0 := xx.cell 0
    have xx1 := xx.cell 1
    have xx2 := xx.cell 2
    simp at xx0 xx1 xx2
    refine bodyPost_ret (v := .agg #[.bool leaf, .slice A ks.length c, .slice C vs.length d]) ?h1 rfl ?h2
    case h1 => simp [results, Try.results28, go_sem, xx0, xx1, xx2]
    case h2 => rw [HR.out]; exact ⟨_, rfl, n00.at3 bel or0 _ _ _⟩
  · cases hky : kyB key
    · have HR : Hid (R = ⟨leaf, ks, vs⟩) := Lib.hid (by rw [← hR]; unfold rwithN plB; rw [hm, hky]; rfl)
      have HM := Lib.hid hm
      have HK := Lib.hid hky
      clear hm hR hky
      go_enter Try.func28, Try.ntmps28
      go_wp2_with fail
      obtain ⟨w1, hw1⟩ : ∃ x, w.alloc (.cells #[.bool leaf, .slice A ks.length c, .slice C vs.length d] 24) = x := ⟨_, rfl⟩
      obtain ⟨ib0, hib0⟩ : ∃ i, w.heap.size = i := ⟨_, rfl⟩
      have b0 : Blk w1 ib0 24 #[.bool leaf, .slice A ks.length c, .slice C vs.length d] := by rw [← hw1, ← hib0]; exact Blk.new _ _ _
      have k1 : Below w.heap.size w w1 := by rw [← hw1]; exact (Below.refl _ _).alloc (Nat.le_refl _) _
      have zb0 : w1.heap.size = ib0 + 1 := by rw [← hw1, ← hib0]; simp
      rw [hw1, hib0]
      have ob0 : w.heap.size ≤ ib0 := by rw [← hib0]; exact bel.size
      have n0 := n0.below k1
      have bel := hthen bel k1
      clear k1
      clear hw1 hib0
      have b0c0 := b0.cell 0
      have b0c1 := b0.cell 1
      have b0c2 := b0.cell 2
      simp at b0c0 b0c1 b0c2
      have b0lt := b0.lt
      try (go_wp2_with fail)
      clear b0c0 b0c1 b0c2 b0lt
      obtain ⟨w2, hw2⟩ : ∃ x, w1.alloc (.cells #[.bool false, .slice none 0 0, .slice none 0 0] 24) = x := ⟨_, rfl⟩
      obtain ⟨ir0, hir0⟩ : ∃ i, w1.heap.size = i := ⟨_, rfl⟩
      have r0 : Blk w2 ir0 24 #[.bool false, .slice none 0 0, .slice none 0 0] := by rw [← hw2, ← hir0]; exact Blk.new _ _ _
      have k2 : Below w1.heap.size w1 w2 := by rw [← hw2]; exact (Below.refl _ _).alloc (Nat.le_refl _) _
      have zr0 : w2.heap.size = ir0 + 1 := by rw [← hw2, ← hir0]; simp
      rw [hw2, ← zb0, hir0]
      have or0 : w.heap.size ≤ ir0 := by rw [← hir0]; exact bel.size
      have nb0r0 : ib0 ≠ ir0 := by have := b0.lt; omega
      have b0 := b0.below k2 b0.lt
      have n0 := n0.below k2
      have bel := hthen bel k2
      clear k2
      clear hw2 hir0
      have b0c0 := b0.cell 0
      have b0c1 := b0.cell 1
      have b0c2 := b0.cell 2
      simp at b0c0 b0c1 b0c2
      have b0lt := b0.lt
      have r0c0 := r0.cell 0
      have r0c1 := r0.cell 1
      have r0c2 := r0.cell 2
      simp at r0c0 r0c1 r0c2
      have r0lt := r0.lt
      try (go_wp2_with fail)
      refine (rmay_to HM.out _ _ n0 hk hv).mono ?_
      rintro e w3 ⟨rfl, k3⟩
      clear b0c0 b0c1 b0c2 b0lt r0c0 r0c1 r0c2 r0lt
      have b0 := b0.below k3 b0.lt
      have r0 := r0.below k3 r0.lt
      have n0 := n0.below k3
      have bel := hthen bel k3
      clear k3
      have b0c0 := b0.cell 0
      have b0c1 := b0.cell 1
      have b0c2 := b0.cell 2
      simp at b0c0 b0c1 b0c2
      have b0lt := b0.lt
      have r0c0 := r0.cell 0
      have r0c1 := r0.cell 1
      have r0c2 := r0.cell 2
      simp at r0c0 r0c1 r0c2
      have r0lt := r0.lt
      go_wp2_with fail
      refine (rkey_to HK.out _).mono ?_
      rintro e w9 ⟨rfl, rfl⟩
      clear b0c0 b0c1 b0c2 b0lt r0c0 r0c1 r0c2 r0lt
      have b0c0 := b0.cell 0
      have b0c1 := b0.cell 1
      have b0c2 := b0.cell 2
      simp at b0c0 b0c1 b0c2
      have b0lt := b0.lt
      have r0c0 := r0.cell 0
      have r0c1 := r0.cell 1
      have r0c2 := r0.cell 2
      simp at r0c0 r0c1 r0c2
      have r0lt := r0.lt
      have rf0 := r0.frozen 0
      have rf1 := r0.frozen 1
      have rf2 := r0.frozen 2
      go_wp2
      have xx := r0.put3 (.bool leaf) (.slice A ks.length c) (.slice C vs.length d)
      have xx0 := xx.cell 0
      have xx1 := xx.cell 1
      have xx2 := xx.cell 2
      simp at xx0 xx1 xx2
      refine bodyPost_ret (v := .agg #[.bool leaf, .slice A ks.length c, .slice C vs.length d]) ?h1 rfl ?h2
      case h1 => simp [results, Try.results28, go_sem, xx0, xx1, xx2]
      case h2 => rw [HR.out]; exact ⟨_, rfl, n00.at3 bel or0 _ _ _⟩
    · by_cases hvl : 120 < val.length
      · have HR : Hid (R = ⟨leaf, ks, vs⟩) := Lib.hid (by rw [← hR]; unfold rwithN plB; rw [hm, hky, decide_eq_false (by omega)]; rfl)
        have HM := Lib.hid hm
        have HK := Lib.hid hky
        have q0 : decide ((val.length : Int) > 120) = true := decide_eq_true (by omega)
        clear hm hR hky
        go_enter Try.func28, Try.ntmps28
        go_wp2_with fail
        obtain ⟨w1, hw1⟩ : ∃ x, w.alloc (.cells #[.bool leaf, .slice A ks.length c, .slice C vs.length d] 24) = x := ⟨_, rfl⟩
        obtain ⟨ib0, hib0⟩ : ∃ i, w.heap.size = i := ⟨_, rfl⟩
        have b0 : Blk w1 ib0 24 #[.bool leaf, .slice A ks.length c, .slice C vs.length d] := by rw [← hw1, ← hib0]; exact Blk.new _ _ _
        have k1 : Below w.heap.size w w1 := by rw [← hw1]; exact (Below.refl _ _).alloc (Nat.le_refl _) _
        have zb0 : w1.heap.size = ib0 + 1 := by rw [← hw1, ← hib0]; simp
        rw [hw1, hib0]
        have ob0 : w.heap.size ≤ ib0 := by rw [← hib0]; exact bel.size
        have n0 := n0.below k1
        have bel := hthen bel k1
        clear k1
        clear hw1 hib0
        have b0c0 := b0.cell 0
        have b0c1 := b0.cell 1
        have b0c2 := b0.cell 2
        simp at b0c0 b0c1 b0c2
        have b0lt := b0.lt
        try (go_wp2_with fail)
        clear b0c0 b0c1 b0c2 b0lt
        obtain ⟨w2, hw2⟩ : ∃ x, w1.alloc (.cells #[.bool false, .slice none 0 0, .slice none 0 0] 24) = x := ⟨_, rfl⟩
        obtain ⟨ir0, hir0⟩ : ∃ i, w1.heap.size = i := ⟨_, rfl⟩
        have r0 : Blk w2 ir0 24 #[.bool false, .slice none 0 0, .slice none 0 0] := by rw [← hw2, ← hir0]; exact Blk.new _ _ _
        have k2 : Below w1.heap.size w1 w2 := by rw [← hw2]; exact (Below.refl _ _).alloc (Nat.le_refl _) _
        have zr0 : w2.heap.size = ir0 + 1 := by rw [← hw2, ← hir0]; simp
        rw [hw2, ← zb0, hir0]
        have or0 : w.heap.size ≤ ir0 := by rw [← hir0]; exact bel.size
        have nb0r0 : ib0 ≠ ir0 := by have := b0.lt; omega
        have b0 := b0.below k2 b0.lt
        have n0 := n0.below k2
        have bel := hthen bel k2
        clear k2
        clear hw2 hir0
        have b0c0 := b0.cell 0
        have b0c1 := b0.cell 1
        have b0c2 := b0.cell 2
        simp at b0c0 b0c1 b0c2
        have b0lt := b0.lt
        have r0c0 := r0.cell 0
        have r0c1 := r0.cell 1
        have r0c2 := r0.cell 2
        simp at r0c0 r0c1 r0c2
        have r0lt := r0.lt
        try (go_wp2_with fail)
        refine (rmay_to HM.out _ _ n0 hk hv).mono ?_
        rintro e w3 ⟨rfl, k3⟩
        clear b0c0 b0c1 b0c2 b0lt r0c0 r0c1 r0c2 r0lt
        have b0 := b0.below k3 b0.lt
        have r0 := r0.below k3 r0.lt
        have n0 := n0.below k3
        have bel := hthen bel k3
        clear k3
        have b0c0 := b0.cell 0
        have b0c1 := b0.cell 1
        have b0c2 := b0.cell 2
        simp at b0c0 b0c1 b0c2
        have b0lt := b0.lt
        have r0c0 := r0.cell 0
        have r0c1 := r0.cell 1
        have r0c2 := r0.cell 2
        simp at r0c0 r0c1 r0c2
        have r0lt := r0.lt
        go_wp2_with fail
        refine (rkey_to HK.out _).mono ?_
        rintro e w9 ⟨rfl, rfl⟩
        clear b0c0 b0c1 b0c2 b0lt r0c0 r0c1 r0c2 r0lt
        have b0c0 := b0.cell 0
        have b0c1 := b0.cell 1
        have b0c2 := b0.cell 2
        simp at b0c0 b0c1 b0c2
        have b0lt := b0.lt
        have r0c0 := r0.cell 0
        have r0c1 := r0.cell 1
        have r0c2 := r0.cell 2
        simp at r0c0 r0c1 r0c2
        have r0lt := r0.lt
        have rf0 := r0.frozen 0
        have rf1 := r0.frozen 1
        have rf2 := r0.frozen 2
        go_wp2
        have xx := r0.put3 (.bool leaf) (.slice A ks.length c) (.slice C vs.length d)
        have xx0 := xx.cell 0
        have xx1 := xx.cell 1
        have xx2 := xx.cell 2
        simp at xx0 xx1 xx2
        refine bodyPost_ret (v := .agg #[.bool leaf, .slice A ks.length c, .slice C vs.length d]) ?h1 rfl ?h2
        case h1 => simp [results, Try.results28, go_sem, xx0, xx1, xx2]
        case h2 => rw [HR.out]; exact ⟨_, rfl, n00.at3 bel or0 _ _ _⟩
      · have q0 : decide ((val.length : Int) > 120) = false := decide_eq_false (by omega)
        have hR2 : R = ⟨leaf, rwf key key (withoutN ⟨leaf, ks, vs⟩ key).keys (withoutN ⟨leaf, ks, vs⟩ key).keys (withoutN ⟨leaf, ks, vs⟩ key).keys.length, rwf key val (withoutN ⟨leaf, ks, vs⟩ key).keys (withoutN ⟨leaf, ks, vs⟩ key).vals (withoutN ⟨leaf, ks, vs⟩ key).keys.length⟩ := by
          rw [← hR]; unfold rwithN plB; rw [hm, hky, decide_eq_true (by omega)]; rfl
        have wm := without_may (key := key) hm
        have wl := without_leaf ⟨leaf, ks, vs⟩ key
        obtain ⟨⟨ml, mk, mv⟩, hM⟩ : ∃ M, withoutN ⟨leaf, ks, vs⟩ key = M := ⟨_, rfl⟩
        rw [hM] at hR2 wm wl
        simp only at hR2 wl
        have wl2 := wl.symm
        subst wl2
        clear wl
        obtain ⟨hs1, hs2⟩ := may_small wm
        simp only at hs1 hs2
        have HR := Lib.hid hR2
        have HL := Lib.hid hs2
        have HMM := Lib.hid hM
        have HM := Lib.hid hm
        have HK := Lib.hid hky
        clear hm hR hR2 hs2 hM hky wm
        go_enter Try.func28, Try.ntmps28
        go_wp2_with fail
        obtain ⟨w1, hw1⟩ : ∃ x, w.alloc (.cells #[.bool leaf, .slice A ks.length c, .slice C vs.length d] 24) = x := ⟨_, rfl⟩
        obtain ⟨ib0, hib0⟩ : ∃ i, w.heap.size = i := ⟨_, rfl⟩
        have b0 : Blk w1 ib0 24 #[.bool leaf, .slice A ks.length c, .slice C vs.length d] := by rw [← hw1, ← hib0]; exact Blk.new _ _ _
        have k1 : Below w.heap.size w w1 := by rw [← hw1]; exact (Below.refl _ _).alloc (Nat.le_refl _) _
        have zb0 : w1.heap.size = ib0 + 1 := by rw [← hw1, ← hib0]; simp
        rw [hw1, hib0]
        have ob0 : w.heap.size ≤ ib0 := by rw [← hib0]; exact bel.size
        have n0 := n0.below k1
        have bel := hthen bel k1
        clear k1
        clear hw1 hib0
        have b0c0 := b0.cell 0
        have b0c1 := b0.cell 1
        have b0c2 := b0.cell 2
        simp at b0c0 b0c1 b0c2
        have b0lt := b0.lt
        try (go_wp2_with fail)
        clear b0c0 b0c1 b0c2 b0lt
        obtain ⟨w2, hw2⟩ : ∃ x, w1.alloc (.cells #[.bool false, .slice none 0 0, .slice none 0 0] 24) = x := ⟨_, rfl⟩
        obtain ⟨ir0, hir0⟩ : ∃ i, w1.heap.size = i := ⟨_, rfl⟩
        have r0 : Blk w2 ir0 24 #[.bool false, .slice none 0 0, .slice none 0 0] := by rw [← hw2, ← hir0]; exact Blk.new _ _ _
        have k2 : Below w1.heap.size w1 w2 := by rw [← hw2]; exact (Below.refl _ _).alloc (Nat.le_refl _) _
        have zr0 : w2.heap.size = ir0 + 1 := by rw [← hw2, ← hir0]; simp
        rw [hw2, ← zb0, hir0]
        have or0 : w.heap.size ≤ ir0 := by rw [← hir0]; exact bel.size
        have nb0r0 : ib0 ≠ ir0 := by have := b0.lt; omega
        have b0 := b0.below k2 b0.lt
        have n0 := n0.below k2
        have bel := hthen bel k2
        clear k2
        clear hw2 hir0
        have b0c0 := b0.cell 0
        have b0c1 := b0.cell 1
        have b0c2 := b0.cell 2
        simp at b0c0 b0c1 b0c2
        have b0lt := b0.lt
        have r0c0 := r0.cell 0
        have r0c1 := r0.cell 1
        have r0c2 := r0.cell 2
        simp at r0c0 r0c1 r0c2
        have r0lt := r0.lt
        try (go_wp2_with fail)
        refine (rmay_to HM.out _ _ n0 hk hv).mono ?_
        rintro e w3 ⟨rfl, k3⟩
        clear b0c0 b0c1 b0c2 b0lt r0c0 r0c1 r0c2 r0lt
        have b0 := b0.below k3 b0.lt
        have r0 := r0.below k3 r0.lt
        have n0 := n0.below k3
        have bel := hthen bel k3
        clear k3
        have b0c0 := b0.cell 0
        have b0c1 := b0.cell 1
        have b0c2 := b0.cell 2
        simp at b0c0 b0c1 b0c2
        have b0lt := b0.lt
        have r0c0 := r0.cell 0
        have r0c1 := r0.cell 1
        have r0c2 := r0.cell 2
        simp at r0c0 r0c1 r0c2
        have r0lt := r0.lt
        go_wp2_with fail
        refine (rkey_to HK.out _).mono ?_
        rintro e w9 ⟨rfl, rfl⟩
        clear b0c0 b0c1 b0c2 b0lt r0c0 r0c1 r0c2 r0lt
        have b0c0 := b0.cell 0
        have b0c1 := b0.cell 1
        have b0c2 := b0.cell 2
        simp at b0c0 b0c1 b0c2
        have b0lt := b0.lt
        have r0c0 := r0.cell 0
        have r0c1 := r0.cell 1
        have r0c2 := r0.cell 2
        simp at r0c0 r0c1 r0c2
        have r0lt := r0.lt
        go_wp2_with fail
        refine (rwithout_own HM.out HMM.out _ _ n0 hk hv).mono ?_
        rintro e w4 ⟨q, A2, cM, C2, dM, rfl, r1, r2, k4⟩
        clear b0c0 b0c1 b0c2 b0lt r0c0 r0c1 r0c2 r0lt
        have b0 := b0.below k4 b0.lt
        have r0 := r0.below k4 r0.lt
        have n0 := n0.below k4
        have bel := hthen bel k4
        clear k4
        have b0c0 := b0.cell 0
        have b0c1 := b0.cell 1
        have b0c2 := b0.cell 2
        simp at b0c0 b0c1 b0c2
        have b0lt := b0.lt
        have r0c0 := r0.cell 0
        have r0c1 := r0.cell 1
        have r0c2 := r0.cell 2
        simp at r0c0 r0c1 r0c2
        have r0lt := r0.lt
        have bf0 := b0.frozen 0
        have bf1 := b0.frozen 1
        have bf2 := b0.frozen 2
        go_wp2_with fail
        clear b0c0 b0c1 b0c2 b0lt r0c0 r0c1 r0c2 r0lt
        clear bf0 bf1 bf2
        have l1 := row_ne r1 b0 (by decide)
        have l2 := row_ne r2 b0 (by decide)
        have r1 := row_set (i := 2) (row_set (i := 1) (row_set (i := 0) r1 l1 (.bool leaf)) l1 (.slice A2 q cM)) l1 (.slice C2 q dM)
        have r2 := row_set (i := 2) (row_set (i := 1) (row_set (i := 0) r2 l2 (.bool leaf)) l2 (.slice A2 q cM)) l2 (.slice C2 q dM)
        have r0 := ((r0.far (p := ⟨ib0, 0, none⟩) (Ne.symm nb0r0) (.bool leaf)).far (p := ⟨ib0, 1, none⟩) (Ne.symm nb0r0) (.slice A2 q cM)).far (p := ⟨ib0, 2, none⟩) (Ne.symm nb0r0) (.slice C2 q dM)
        have b0 := b0.put3 (.bool leaf) (.slice A2 q cM) (.slice C2 q dM)
        have bel := below_at (below_at (below_at bel ob0 0 (.bool leaf)) ob0 1 (.slice A2 q cM)) ob0 2 (.slice C2 q dM)
        obtain ⟨wB, hwB⟩ : ∃ x, ((w4.setCell ⟨ib0, 0, none⟩ (.bool leaf)).setCell ⟨ib0, 1, none⟩ (.slice A2 q cM)).setCell ⟨ib0, 2, none⟩ (.slice C2 q dM) = x := ⟨_, rfl⟩
        have hsz : w4.heap.size = wB.heap.size := by rw [← hwB]; simp
        rw [hwB] at r1 r2 r0 b0 bel ⊢
        rw [hsz]
        clear hsz
        have s1 := ss_row r1
        have s2 := ss_row r2
        have hq1 : mk.length = q := by have := r1.1; rw [secV_len] at this; omega
        have hq2 : mv.length = q := by have := r2.1; rw [secV_len] at this; omega
        have HS3 := Lib.hid s1
        have HS4 := Lib.hid s2
        have HQ1 := Lib.hid hq1
        have HQ2 := Lib.hid hq2
        have hqs : q ≤ 255 := by omega
        have BEL := Lib.hid bel
        have OR0 : w.heap.size ≤ ir0 := or0
        have bel : Below wB.heap.size wB wB := Below.refl _ _
        clear hwB l1 l2 r1 r2 s1 s2 hq1 hq2 n0
        obtain ⟨w5, hw5⟩ : ∃ x, wB.alloc (.cells #[.bool leaf, .slice none 0 0, .slice none 0 0] 24) = x := ⟨_, rfl⟩
        obtain ⟨ib1, hib1⟩ : ∃ i, wB.heap.size = i := ⟨_, rfl⟩
        have b1 : Blk w5 ib1 24 #[.bool leaf, .slice none 0 0, .slice none 0 0] := by rw [← hw5, ← hib1]; exact Blk.new _ _ _
        have k5 : Below wB.heap.size wB w5 := by rw [← hw5]; exact (Below.refl _ _).alloc (Nat.le_refl _) _
        have zb1 : w5.heap.size = ib1 + 1 := by rw [← hw5, ← hib1]; simp
        rw [hw5, hib1]
        have ob1 : wB.heap.size ≤ ib1 := by rw [← hib1]; exact bel.size
        have nb0b1 : ib0 ≠ ib1 := by have := b0.lt; omega
        have nr0b1 : ir0 ≠ ib1 := by have := r0.lt; omega
        have b0 := b0.below k5 b0.lt
        have r0 := r0.below k5 r0.lt
        have bel := hthen bel k5
        clear k5
        clear hw5 hib1
        have b0c0 := b0.cell 0
        have b0c1 := b0.cell 1
        have b0c2 := b0.cell 2
        simp at b0c0 b0c1 b0c2
        have b0lt := b0.lt
        have r0c0 := r0.cell 0
        have r0c1 := r0.cell 1
        have r0c2 := r0.cell 2
        simp at r0c0 r0c1 r0c2
        have r0lt := r0.lt
        have b1c0 := b1.cell 0
        have b1c1 := b1.cell 1
        have b1c2 := b1.cell 2
        simp at b1c0 b1c1 b1c2
        have b1lt := b1.lt
        try (go_wp2_with fail)
        clear b0c0 b0c1 b0c2 b0lt r0c0 r0c1 r0c2 r0lt b1c0 b1c1 b1c2 b1lt
        have st : GrSt 24 wB ib1 leaf [] [] 0 0 (.slice none 0 0) (.slice none 0 0) w5 := GrSt.new bel b1 ob1
        clear bel b1
        go_loopw [8, 9] (fun ld i wr => ∃ (k m : Nat) (uk uv : Value), k ≤ q ∧ m ≤ k + 1 ∧ i = .int .i64 k ∧ ld = .bool (rwi key key mk mk k).laid ∧ Hid ((rwi key key mk mk k).laid = false → m ≤ k) ∧ GrSt 24 wB ib1 leaf (rwi key key mk mk k).l (rwi key val mk mv k).l m m uk uv wr ∧ Blk wr ib0 24 #[.bool leaf, .slice A2 q cM, .slice C2 q dM] ∧ Blk wr ir0 24 #[.bool false, .slice none 0 0, .slice none 0 0]) (fun _ i _ => q - (intOf i).toNat)
        case atStart => exact ⟨0, 0, _, _, Nat.zero_le _, Nat.zero_le _, rfl, rfl, Lib.hid (fun _ => Nat.le_refl _), st, b0, r0⟩
        case round =>
          clear st b0 r0
          obtain ⟨k, m, uk, uv, hkn, hmk, rfl, rfl, hml, st, b0, r0⟩ := hrel
          obtain ⟨A1, cA, C1, d1, rfl, rfl⟩ := st.form
          by_cases hlt : k < q
          · have q1 : decide ((k : Int) < q) = true := decide_eq_true (by omega)
            have T0 : (0 : Int) ≤ k := by omega
            have T1 : (k : Int) < q := by omega
            have t1 := HS3.out
            have t2 := HS4.out
            obtain ⟨ad, rfl, c1⟩ := t1.cell (Below.refl _ _) (j := k) (by rw [HQ1.out]; exact hlt)
            obtain ⟨bd, rfl, c2⟩ := t2.cell (Below.refl _ _) (j := k) (by rw [HQ2.out]; exact hlt)
            clear t1 t2
            obtain ⟨lb, hlb⟩ : ∃ b, (rwi key key mk mk k).laid = b := ⟨_, rfl⟩
            have hlb2 : (rwi key val mk mv k).laid = lb := (rwi_laid key val key mk mv mk k).trans hlb
            have hml2 := hml.out
            rw [hlb] at hml2 ⊢
            have HML := Lib.hid hml2
            clear hml hml2
            obtain ⟨L1, hL1⟩ : ∃ y, (rwi key key mk mk k).l = y := ⟨_, rfl⟩
            obtain ⟨L2, hL2⟩ : ∃ y, (rwi key val mk mv k).l = y := ⟨_, rfl⟩
            rw [hL1, hL2] at st
            obtain ⟨X, hX⟩ : ∃ y, mk.getD k [] = y := ⟨_, rfl⟩
            obtain ⟨Y, hY⟩ : ∃ y, mv.getD k [] = y := ⟨_, rfl⟩
            rw [hX] at c1
            rw [hY] at c2
            have cc1 := (st.bel.cell (acell_lt c1)).trans c1
            cases hlq : lb
            · rw [hlq] at hlb hlb2 HML
              have hmk0 := Lib.hid (HML.out rfl)
              clear hlq HML
              cases hb : Op.bytesLess X key
              · by_cases he : X = key
                · have q2 : (X == key) = true := by simp [he]
                  have hb0 : Op.bytesLess key (mk.getD k []) = false := by rw [hX, he]; exact bl_irr key
                  have hn1 := rwi_add hb0 key mk (.inr rfl)
                  have hn2 := rwi_add hb0 val mv (.inr rfl)
                  clear he hb0
                  rw [hlb, hL1, hX] at hn1
                  rw [hlb2, hL2, hY] at hn2
                  have HN1 := Lib.hid hn1
                  have HN2 := Lib.hid hn2
                  have F1 := Lib.hid (show m + 1 ≤ maxLen by unfold maxLen; omega)
                  have F2 := Lib.hid (show (m + 1) * 16 ≤ 140737488355328 by omega)
                  clear hn1 hn2 hlb hlb2 hL1 hL2 hX hY
                  have o0 := st.b.cell 0
                  have o1 := st.b.cell 1
                  have o2 := st.b.cell 2
                  simp at o0 o1 o2
                  have b0c0 := b0.cell 0
                  have b0c1 := b0.cell 1
                  have b0c2 := b0.cell 2
                  simp at b0c0 b0c1 b0c2
                  have b0lt := b0.lt
                  have r0c0 := r0.cell 0
                  have r0c1 := r0.cell 1
                  have r0c2 := r0.cell 2
                  simp at r0c0 r0c1 r0c2
                  have r0lt := r0.lt
                  go_wp2_with fail
                  clear b0c0 b0c1 b0c2 b0lt r0c0 r0c1 r0c2 r0lt
                  clear o0 o1 o2
                  have st := st.drew
                  have b0 := b0.drew
                  have r0 := r0.drew
                  refine wp_region_noPanic ?_
                  refine wp_region_x (S := (fun w' => w'.cell? ⟨ib1, 1, none⟩ = some (.slice A1 m cA) ∧ w'.cell? ⟨ib0, 0, none⟩ = some (.bool leaf) ∧ w'.cell? ⟨ib0, 1, none⟩ = some (.slice (some ad) q cM) ∧ w'.cell? ⟨ib0, 2, none⟩ = some (.slice (some bd) q dM) ∧ w'.cell? (ad.add k) = some (.string (bstr X)))) 10 (by kernel_rfl) ?hS0 (fun hHeld => ?_)
                  case hS0 => (have q0 := st.b.cell 1; have q1 := b0.cell 0; have q2 := b0.cell 1; have q3 := b0.cell 2; simp at q0 q1 q2 q3; exact ⟨q0, q1, q2, q3, ((st.bel).cell (acell_lt c1)).trans c1⟩)
                  generalize hZ : wr.drew = Z0 at *
                  clear hZ
                  refine wpAnyX_free (i := 0) (v := ?_) rfl (by kernel_rfl) (by kernel_rfl) (by kernel_rfl) (by kernel_rfl) (fun _ _ _ h => h) (Or.inl ⟨by kernel_rfl, ?_⟩) (.inr hHeld) ?_
                  rotate_left
                  · (intro w _; go_simp; try with_reducible rfl)
                  try simp only [Act.put, List.getElem_toArray, List.getElem_cons_succ, List.getElem_cons_zero, List.setIfInBounds_toArray, List.set_cons_zero, List.set_cons_succ]
                  refine wpAnyX_take (i := 1) (v := ?_) rfl (by kernel_rfl) (by kernel_rfl) (by kernel_rfl) (by kernel_rfl) (by kernel_rfl) (fun _ _ _ h => h) (Or.inl ⟨by kernel_rfl, ?_⟩) hHeld ?_
                  rotate_left
                  · (intro w hSw; (try dsimp only at hSw); go_simp; try with_reducible rfl)
                  try simp only [Act.put, List.getElem_toArray, List.getElem_cons_succ, List.getElem_cons_zero, List.setIfInBounds_toArray, List.set_cons_zero, List.set_cons_succ]
                  refine wpAnyX_free (i := 2) (v := ?_) rfl (by kernel_rfl) (by kernel_rfl) (by kernel_rfl) (by kernel_rfl) (fun _ _ _ h => h) (Or.inl ⟨by kernel_rfl, ?_⟩) (.inr hHeld) ?_
                  rotate_left
                  · (intro w _; go_simp; try with_reducible rfl)
                  try simp only [Act.put, List.getElem_toArray, List.getElem_cons_succ, List.getElem_cons_zero, List.setIfInBounds_toArray, List.set_cons_zero, List.set_cons_succ]
                  refine wpAnyX_take (i := 3) (v := ?_) rfl (by kernel_rfl) (by kernel_rfl) (by kernel_rfl) (by kernel_rfl) (by kernel_rfl) (fun _ _ _ h => h) (Or.inl ⟨by kernel_rfl, ?_⟩) hHeld ?_
                  rotate_left
                  · (intro w hSw; (try dsimp only at hSw); go_simp; try with_reducible rfl)
                  try simp only [Act.put, List.getElem_toArray, List.getElem_cons_succ, List.getElem_cons_zero, List.setIfInBounds_toArray, List.set_cons_zero, List.set_cons_succ]
                  refine wpAnyX_free (i := 4) (v := ?_) rfl (by kernel_rfl) (by kernel_rfl) (by kernel_rfl) (by kernel_rfl) (fun _ _ _ h => h) (Or.inl ⟨by kernel_rfl, ?_⟩) (.inr hHeld) ?_
                  rotate_left
                  · (intro w _; go_simp; try with_reducible rfl)
                  try simp only [Act.put, List.getElem_toArray, List.getElem_cons_succ, List.getElem_cons_zero, List.setIfInBounds_toArray, List.set_cons_zero, List.set_cons_succ]
                  refine wpAnyX_free (i := 5) (v := ?_) rfl (by kernel_rfl) (by kernel_rfl) (by kernel_rfl) (by kernel_rfl) (fun _ _ _ h => h) (Or.inl ⟨by kernel_rfl, ?_⟩) (.inr hHeld) ?_
                  rotate_left
                  · (intro w _; go_simp; try with_reducible rfl)
                  try simp only [Act.put, List.getElem_toArray, List.getElem_cons_succ, List.getElem_cons_zero, List.setIfInBounds_toArray, List.set_cons_zero, List.set_cons_succ]
                  refine wpAnyX_take (i := 6) (v := ?_) rfl (by kernel_rfl) (by kernel_rfl) (by kernel_rfl) (by kernel_rfl) (by kernel_rfl) (fun _ _ _ h => h) (Or.inl ⟨by kernel_rfl, ?_⟩) hHeld ?_
                  rotate_left
                  · (intro w hSw; (try dsimp only at hSw); go_simp; try with_reducible rfl)
                  try simp only [Act.put, List.getElem_toArray, List.getElem_cons_succ, List.getElem_cons_zero, List.setIfInBounds_toArray, List.set_cons_zero, List.set_cons_succ]
                  refine wpAnyX_ready (rs := [7]) (by kernel_rfl) (by simp) ?_
                  refine (AllReadyX.cons rfl (fun K hK => ?_) AllReadyX.nil)
                  try rw [if_pos (by kernel_rfl)]
                  go_simp
                  obtain ⟨u1, hu1⟩ : ∃ x, Z0.alloc (.cells #[.string (bstr X)] 9) = x := ⟨_, rfl⟩
                  obtain ⟨gB, hgB⟩ : ∃ b, Z0.heap.size = b := ⟨_, rfl⟩
                  have nb : Blk u1 gB 9 #[.string (bstr X)] := by rw [← hu1, ← hgB]; exact Blk.new _ _ _
                  have kB : Below Z0.heap.size Z0 u1 := by rw [← hu1]; exact (Below.refl _ _).alloc (Nat.le_refl _) _
                  have st := st.below kB
                  have b0 := b0.below kB b0.lt
                  have r0 := r0.below kB r0.lt
                  rw [hu1, hgB]
                  clear hu1 hgB kB
                  try dsimp only
                  refine hK.out _ _ (by have q0 := st.b.cell 1; have q1 := b0.cell 0; have q2 := b0.cell 1; have q3 := b0.cell 2; simp at q0 q1 q2 q3; exact ⟨q0, q1, q2, q3, ((st.bel).cell (acell_lt c1)).trans c1⟩) (fun hHeld => ?_)
                  clear hK K
                  try simp only [Act.put, List.getElem_toArray, List.getElem_cons_succ, List.getElem_cons_zero, List.setIfInBounds_toArray, List.set_cons_zero, List.set_cons_succ]
                  refine wpAnyX_ready (rs := [8]) (by kernel_rfl) (by simp) ?_
                  refine (AllReadyX.cons rfl (fun K hK => ?_) AllReadyX.nil)
                  refine step_append_lies _ (by rfl) _ _ 22 (by rfl) wB.heap.size 9 i0 (.string ⟨#[]⟩) 1 16 Try.underlying22 hi0 hz0 hz1 hz2 rfl (by decide) (.slice A1 m cA) m _ rfl st.o1 ⟨gB, 0, none⟩ 1 1 [.string (bstr X)] rfl rfl (World.news_of_block nb) (fun u hu => by simp at hu; subst hu; rfl) (by decide) F1.out F2.out st.bel.size _ rfl ?_
                  intro gn1 cap1 u3 hown hgr hat _
                  obtain ⟨bn, oth, belN, stn, othN⟩ := st.app1 (by decide) hown hgr hat
                  clear hown hgr hat nb
                  have b0N := othN _ _ _ b0 (by decide) nb0b1
                  have b0 := oth _ _ _ b0 (by decide) nb0b1
                  have r0N := othN _ _ _ r0 (by decide) nr0b1
                  have r0 := oth _ _ _ r0 (by decide) nr0b1
                  clear oth othN
                  try dsimp only
                  refine hK.out _ _ (by have q0 := bn.cell 1; have q1 := b0.cell 0; have q2 := b0.cell 1; have q3 := b0.cell 2; simp at q0 q1 q2 q3; exact ⟨q0, q1, q2, q3, ((belN).cell (acell_lt c1)).trans c1⟩) (fun hHeld => ?_)
                  clear hK K
                  try simp only [Act.put, List.getElem_toArray, List.getElem_cons_succ, List.getElem_cons_zero, List.setIfInBounds_toArray, List.set_cons_zero, List.set_cons_succ]
                  refine wpAnyX_free (i := 9) (v := ?_) rfl (by kernel_rfl) (by kernel_rfl) (by kernel_rfl) (by kernel_rfl) (fun _ _ _ h => h) (Or.inl ⟨by kernel_rfl, ?_⟩) (.inr hHeld) ?_
                  rotate_left
                  · (intro w _; go_simp; try with_reducible rfl)
                  try simp only [Act.put, List.getElem_toArray, List.getElem_cons_succ, List.getElem_cons_zero, List.setIfInBounds_toArray, List.set_cons_zero, List.set_cons_succ]
                  have zz := bn.frozen 1
                  have zc := bn.cell 1
                  simp at zc
                  refine wpAnyX_ready (rs := [10]) (by kernel_rfl) (by simp) ?_
                  refine (AllReadyX.late rfl (by kernel_rfl) (fun K hK => ?_) AllReadyX.nil)
                  try rw [if_pos (by kernel_rfl)]
                  go_simp
                  try dsimp only
                  refine hK.out _ _ ?_
                  clear hK K
                  try simp only [Act.put, List.getElem_toArray, List.getElem_cons_succ, List.getElem_cons_zero, List.setIfInBounds_toArray, List.set_cons_zero, List.set_cons_succ]
                  refine wpAnyX_done (by kernel_rfl) ?_ _
                  refine NoPanic.normal ?_
                  obtain ⟨u4, hu4⟩ : ∃ x, u3.setCell ⟨ib1, 1, none⟩ (.slice (some ⟨gn1, 0, none⟩) (m + 1) cap1) = x := ⟨_, rfl⟩
                  rw [hu4] at stn b0N r0N ⊢
                  clear hu4 bn st zz zc belN
                  have st := stn
                  have b0 := b0N
                  have r0 := r0N
                  clear stn b0N r0N
                  have o0 := st.b.cell 0
                  have o1 := st.b.cell 1
                  have o2 := st.b.cell 2
                  simp at o0 o1 o2
                  have b0c0 := b0.cell 0
                  have b0c1 := b0.cell 1
                  have b0c2 := b0.cell 2
                  simp at b0c0 b0c1 b0c2
                  have b0lt := b0.lt
                  have r0c0 := r0.cell 0
                  have r0c1 := r0.cell 1
                  have r0c2 := r0.cell 2
                  simp at r0c0 r0c1 r0c2
                  have r0lt := r0.lt
                  go_wp2_with fail
                  clear b0c0 b0c1 b0c2 b0lt r0c0 r0c1 r0c2 r0lt
                  clear o0 o1 o2
                  have st := st.drew
                  have b0 := b0.drew
                  have r0 := r0.drew
                  refine wp_region_noPanic ?_
                  refine wp_region_x (S := (fun w' => w'.cell? ⟨ib1, 2, none⟩ = some (.slice C1 m d1) ∧ w'.cell? ⟨ib0, 0, none⟩ = some (.bool leaf) ∧ w'.cell? ⟨ib0, 1, none⟩ = some (.slice (some ad) q cM) ∧ w'.cell? ⟨ib0, 2, none⟩ = some (.slice (some bd) q dM) ∧ w'.cell? (bd.add k) = some (.string (bstr Y)))) 10 (by kernel_rfl) ?hS0 (fun hHeld => ?_)
                  case hS0 => (have q0 := st.b.cell 2; have q1 := b0.cell 0; have q2 := b0.cell 1; have q3 := b0.cell 2; simp at q0 q1 q2 q3; exact ⟨q0, q1, q2, q3, ((st.bel).cell (acell_lt c2)).trans c2⟩)
                  generalize hZ : u4.drew = Z0 at *
                  clear hZ
                  refine wpAnyX_free (i := 0) (v := ?_) rfl (by kernel_rfl) (by kernel_rfl) (by kernel_rfl) (by kernel_rfl) (fun _ _ _ h => h) (Or.inl ⟨by kernel_rfl, ?_⟩) (.inr hHeld) ?_
                  rotate_left
                  · (intro w _; go_simp; try with_reducible rfl)
                  try simp only [Act.put, List.getElem_toArray, List.getElem_cons_succ, List.getElem_cons_zero, List.setIfInBounds_toArray, List.set_cons_zero, List.set_cons_succ]
                  refine wpAnyX_take (i := 1) (v := ?_) rfl (by kernel_rfl) (by kernel_rfl) (by kernel_rfl) (by kernel_rfl) (by kernel_rfl) (fun _ _ _ h => h) (Or.inl ⟨by kernel_rfl, ?_⟩) hHeld ?_
                  rotate_left
                  · (intro w hSw; (try dsimp only at hSw); go_simp; try with_reducible rfl)
                  try simp only [Act.put, List.getElem_toArray, List.getElem_cons_succ, List.getElem_cons_zero, List.setIfInBounds_toArray, List.set_cons_zero, List.set_cons_succ]
                  refine wpAnyX_free (i := 2) (v := ?_) rfl (by kernel_rfl) (by kernel_rfl) (by kernel_rfl) (by kernel_rfl) (fun _ _ _ h => h) (Or.inl ⟨by kernel_rfl, ?_⟩) (.inr hHeld) ?_
                  rotate_left
                  · (intro w _; go_simp; try with_reducible rfl)
                  try simp only [Act.put, List.getElem_toArray, List.getElem_cons_succ, List.getElem_cons_zero, List.setIfInBounds_toArray, List.set_cons_zero, List.set_cons_succ]
                  refine wpAnyX_take (i := 3) (v := ?_) rfl (by kernel_rfl) (by kernel_rfl) (by kernel_rfl) (by kernel_rfl) (by kernel_rfl) (fun _ _ _ h => h) (Or.inl ⟨by kernel_rfl, ?_⟩) hHeld ?_
                  rotate_left
                  · (intro w hSw; (try dsimp only at hSw); go_simp; try with_reducible rfl)
                  try simp only [Act.put, List.getElem_toArray, List.getElem_cons_succ, List.getElem_cons_zero, List.setIfInBounds_toArray, List.set_cons_zero, List.set_cons_succ]
                  refine wpAnyX_free (i := 4) (v := ?_) rfl (by kernel_rfl) (by kernel_rfl) (by kernel_rfl) (by kernel_rfl) (fun _ _ _ h => h) (Or.inl ⟨by kernel_rfl, ?_⟩) (.inr hHeld) ?_
                  rotate_left
                  · (intro w _; go_simp; try with_reducible rfl)
                  try simp only [Act.put, List.getElem_toArray, List.getElem_cons_succ, List.getElem_cons_zero, List.setIfInBounds_toArray, List.set_cons_zero, List.set_cons_succ]
                  refine wpAnyX_free (i := 5) (v := ?_) rfl (by kernel_rfl) (by kernel_rfl) (by kernel_rfl) (by kernel_rfl) (fun _ _ _ h => h) (Or.inl ⟨by kernel_rfl, ?_⟩) (.inr hHeld) ?_
                  rotate_left
                  · (intro w _; go_simp; try with_reducible rfl)
                  try simp only [Act.put, List.getElem_toArray, List.getElem_cons_succ, List.getElem_cons_zero, List.setIfInBounds_toArray, List.set_cons_zero, List.set_cons_succ]
                  refine wpAnyX_take (i := 6) (v := ?_) rfl (by kernel_rfl) (by kernel_rfl) (by kernel_rfl) (by kernel_rfl) (by kernel_rfl) (fun _ _ _ h => h) (Or.inl ⟨by kernel_rfl, ?_⟩) hHeld ?_
                  rotate_left
                  · (intro w hSw; (try dsimp only at hSw); go_simp; try with_reducible rfl)
                  try simp only [Act.put, List.getElem_toArray, List.getElem_cons_succ, List.getElem_cons_zero, List.setIfInBounds_toArray, List.set_cons_zero, List.set_cons_succ]
                  refine wpAnyX_ready (rs := [7]) (by kernel_rfl) (by simp) ?_
                  refine (AllReadyX.cons rfl (fun K hK => ?_) AllReadyX.nil)
                  try rw [if_pos (by kernel_rfl)]
                  go_simp
                  obtain ⟨u1, hu1⟩ : ∃ x, Z0.alloc (.cells #[.string (bstr Y)] 9) = x := ⟨_, rfl⟩
                  obtain ⟨gB, hgB⟩ : ∃ b, Z0.heap.size = b := ⟨_, rfl⟩
                  have nb : Blk u1 gB 9 #[.string (bstr Y)] := by rw [← hu1, ← hgB]; exact Blk.new _ _ _
                  have kB : Below Z0.heap.size Z0 u1 := by rw [← hu1]; exact (Below.refl _ _).alloc (Nat.le_refl _) _
                  have st := st.below kB
                  have b0 := b0.below kB b0.lt
                  have r0 := r0.below kB r0.lt
                  rw [hu1, hgB]
                  clear hu1 hgB kB
                  try dsimp only
                  refine hK.out _ _ (by have q0 := st.b.cell 2; have q1 := b0.cell 0; have q2 := b0.cell 1; have q3 := b0.cell 2; simp at q0 q1 q2 q3; exact ⟨q0, q1, q2, q3, ((st.bel).cell (acell_lt c2)).trans c2⟩) (fun hHeld => ?_)
                  clear hK K
                  try simp only [Act.put, List.getElem_toArray, List.getElem_cons_succ, List.getElem_cons_zero, List.setIfInBounds_toArray, List.set_cons_zero, List.set_cons_succ]
                  refine wpAnyX_ready (rs := [8]) (by kernel_rfl) (by simp) ?_
                  refine (AllReadyX.cons rfl (fun K hK => ?_) AllReadyX.nil)
                  refine step_append_lies _ (by rfl) _ _ 22 (by rfl) wB.heap.size 9 i0 (.string ⟨#[]⟩) 1 16 Try.underlying22 hi0 hz0 hz1 hz2 rfl (by decide) (.slice C1 m d1) m _ rfl st.o2 ⟨gB, 0, none⟩ 1 1 [.string (bstr Y)] rfl rfl (World.news_of_block nb) (fun u hu => by simp at hu; subst hu; rfl) (by decide) F1.out F2.out st.bel.size _ rfl ?_
                  intro gn2 cap2 u3 hown hgr hat _
                  obtain ⟨bn, oth, belN, stn, othN⟩ := st.app2 (by decide) hown hgr hat
                  clear hown hgr hat nb
                  have b0N := othN _ _ _ b0 (by decide) nb0b1
                  have b0 := oth _ _ _ b0 (by decide) nb0b1
                  have r0N := othN _ _ _ r0 (by decide) nr0b1
                  have r0 := oth _ _ _ r0 (by decide) nr0b1
                  clear oth othN
                  try dsimp only
                  refine hK.out _ _ (by have q0 := bn.cell 2; have q1 := b0.cell 0; have q2 := b0.cell 1; have q3 := b0.cell 2; simp at q0 q1 q2 q3; exact ⟨q0, q1, q2, q3, ((belN).cell (acell_lt c2)).trans c2⟩) (fun hHeld => ?_)
                  clear hK K
                  try simp only [Act.put, List.getElem_toArray, List.getElem_cons_succ, List.getElem_cons_zero, List.setIfInBounds_toArray, List.set_cons_zero, List.set_cons_succ]
                  refine wpAnyX_free (i := 9) (v := ?_) rfl (by kernel_rfl) (by kernel_rfl) (by kernel_rfl) (by kernel_rfl) (fun _ _ _ h => h) (Or.inl ⟨by kernel_rfl, ?_⟩) (.inr hHeld) ?_
                  rotate_left
                  · (intro w _; go_simp; try with_reducible rfl)
                  try simp only [Act.put, List.getElem_toArray, List.getElem_cons_succ, List.getElem_cons_zero, List.setIfInBounds_toArray, List.set_cons_zero, List.set_cons_succ]
                  have zz := bn.frozen 2
                  have zc := bn.cell 2
                  simp at zc
                  refine wpAnyX_ready (rs := [10]) (by kernel_rfl) (by simp) ?_
                  refine (AllReadyX.late rfl (by kernel_rfl) (fun K hK => ?_) AllReadyX.nil)
                  try rw [if_pos (by kernel_rfl)]
                  go_simp
                  try dsimp only
                  refine hK.out _ _ ?_
                  clear hK K
                  try simp only [Act.put, List.getElem_toArray, List.getElem_cons_succ, List.getElem_cons_zero, List.setIfInBounds_toArray, List.set_cons_zero, List.set_cons_succ]
                  refine wpAnyX_done (by kernel_rfl) ?_ _
                  refine NoPanic.normal ?_
                  obtain ⟨u4, hu4⟩ : ∃ x, u3.setCell ⟨ib1, 2, none⟩ (.slice (some ⟨gn2, 0, none⟩) (m + 1) cap2) = x := ⟨_, rfl⟩
                  rw [hu4] at stn b0N r0N ⊢
                  clear hu4 bn st zz zc belN
                  have st := stn
                  have b0 := b0N
                  have r0 := r0N
                  clear stn b0N r0N
                  go_wp2
                  go_roundw
                  case rel => exact ⟨k + 1, m + 1, _, _, by omega, by omega, by go_num, by rw [HN1.out], Lib.hid (by rw [HN1.out]; intro h; have := hmk0.out; omega), by rw [HN1.out, HN2.out]; exact st, b0, r0⟩
                  case measure => simp [intOf]; omega
                · have q2 : (X == key) = false := beq_eq_false_iff_ne.2 he
                  have hb0 : Op.bytesLess key (mk.getD k []) = true := by rw [hX]; exact less_above hb he
                  have hn1 := rwi_put hb0 key mk hlb
                  have hn2 := rwi_put hb0 val mv hlb2
                  rw [hL1, hX] at hn1
                  rw [hL2, hY] at hn2
                  have HN1 := Lib.hid hn1
                  have HN2 := Lib.hid hn2
                  have F1 := Lib.hid (show m + 1 ≤ maxLen by unfold maxLen; omega)
                  have F2 := Lib.hid (show (m + 1) * 16 ≤ 140737488355328 by omega)
                  clear hn1 hn2 hlb hlb2 hL1 hL2 hX hY hb0 he
                  have o0 := st.b.cell 0
                  have o1 := st.b.cell 1
                  have o2 := st.b.cell 2
                  simp at o0 o1 o2
                  have b0c0 := b0.cell 0
                  have b0c1 := b0.cell 1
                  have b0c2 := b0.cell 2
                  simp at b0c0 b0c1 b0c2
                  have b0lt := b0.lt
                  have r0c0 := r0.cell 0
                  have r0c1 := r0.cell 1
                  have r0c2 := r0.cell 2
                  simp at r0c0 r0c1 r0c2
                  have r0lt := r0.lt
                  have kA : Below wr.heap.size wr (wr.alloc (.cells #[.string (bstr key)] 9)) := (Below.refl _ _).alloc (Nat.le_refl _) _
                  have stA := st.below kA
                  have b0A := b0.below kA b0.lt
                  have r0A := r0.below kA r0.lt
                  go_wp2_with (at_builtin; refine wpList_append_lies (P := Try.prog) _ rfl _ _ 22 rfl wB.heap.size 9 i0 (.string ⟨#[]⟩) 1 16 Try.underlying22 hi0 hz0 hz1 hz2 rfl (by decide) (.slice A1 m cA) m _ rfl stA.o1 ⟨wr.heap.size, 0, none⟩ 1 1 [.string (bstr key)] rfl rfl (World.news_of_block (Blk.new wr _ _)) (fun u hu => by simp at hu; subst hu; rfl) (by decide) F1.out F2.out stA.bel.size _ rfl ?_)
                  clear b0c0 b0c1 b0c2 b0lt r0c0 r0c1 r0c2 r0lt
                  clear o0 o1 o2
                  intro gn1 cap1 u3 hown hgr hat _
                  obtain ⟨bn, _, belN, stn, othN⟩ := stA.app1 (by decide) hown hgr (hat.imp_right (fun e => e.trans (by simp)))
                  have b0 := othN _ _ _ b0A (by decide) nb0b1
                  have r0 := othN _ _ _ r0A (by decide) nr0b1
                  clear hown hgr hat othN kA stA belN b0A r0A
                  have zz := bn.frozen 1
                  have zc := bn.cell 1
                  simp at zc
                  obtain ⟨u4, hu4⟩ : ∃ x, u3.setCell ⟨ib1, 1, none⟩ (.slice (some ⟨gn1, 0, none⟩) (m + 1) cap1) = x := ⟨_, rfl⟩
                  rw [hu4] at stn b0 r0
                  have HU4 := Lib.hid hu4
                  clear hu4
                  go_upto_region 11 with fail
                  rw [HU4.out]
                  clear bn zz zc HU4
                  have st := stn
                  clear stn
                  have o0 := st.b.cell 0
                  have o1 := st.b.cell 1
                  have o2 := st.b.cell 2
                  simp at o0 o1 o2
                  have b0c0 := b0.cell 0
                  have b0c1 := b0.cell 1
                  have b0c2 := b0.cell 2
                  simp at b0c0 b0c1 b0c2
                  have b0lt := b0.lt
                  have r0c0 := r0.cell 0
                  have r0c1 := r0.cell 1
                  have r0c2 := r0.cell 2
                  simp at r0c0 r0c1 r0c2
                  have r0lt := r0.lt
                  have kA : Below u4.heap.size u4 (u4.alloc (.cells #[.string (bstr val)] 9)) := (Below.refl _ _).alloc (Nat.le_refl _) _
                  have stA := st.below kA
                  have b0A := b0.below kA b0.lt
                  have r0A := r0.below kA r0.lt
                  go_wp2_with (at_builtin; refine wpList_append_lies (P := Try.prog) _ rfl _ _ 22 rfl wB.heap.size 9 i0 (.string ⟨#[]⟩) 1 16 Try.underlying22 hi0 hz0 hz1 hz2 rfl (by decide) (.slice C1 m d1) m _ rfl stA.o2 ⟨u4.heap.size, 0, none⟩ 1 1 [.string (bstr val)] rfl rfl (World.news_of_block (Blk.new u4 _ _)) (fun u hu => by simp at hu; subst hu; rfl) (by decide) F1.out F2.out stA.bel.size _ rfl ?_)
                  clear b0c0 b0c1 b0c2 b0lt r0c0 r0c1 r0c2 r0lt
                  clear o0 o1 o2
                  intro gn2 cap2 u3 hown hgr hat _
                  obtain ⟨bn, _, belN, stn, othN⟩ := stA.app2 (by decide) hown hgr (hat.imp_right (fun e => e.trans (by simp)))
                  have b0 := othN _ _ _ b0A (by decide) nb0b1
                  have r0 := othN _ _ _ r0A (by decide) nr0b1
                  clear hown hgr hat othN kA stA belN b0A r0A
                  have zz := bn.frozen 2
                  have zc := bn.cell 2
                  simp at zc
                  obtain ⟨u4, hu4⟩ : ∃ x, u3.setCell ⟨ib1, 2, none⟩ (.slice (some ⟨gn2, 0, none⟩) (m + 1) cap2) = x := ⟨_, rfl⟩
                  rw [hu4] at stn b0 r0
                  have HU4 := Lib.hid hu4
                  clear hu4
                  go_upto_region 12 with fail
                  rw [HU4.out]
                  clear bn zz zc HU4
                  have st := stn
                  clear stn
                  clear F1 F2 cc1
                  have F1 := Lib.hid (show (m + 1) + 1 ≤ maxLen by unfold maxLen; omega)
                  have F2 := Lib.hid (show ((m + 1) + 1) * 16 ≤ 140737488355328 by omega)
                  have o0 := st.b.cell 0
                  have o1 := st.b.cell 1
                  have o2 := st.b.cell 2
                  simp at o0 o1 o2
                  have b0c0 := b0.cell 0
                  have b0c1 := b0.cell 1
                  have b0c2 := b0.cell 2
                  simp at b0c0 b0c1 b0c2
                  have b0lt := b0.lt
                  have r0c0 := r0.cell 0
                  have r0c1 := r0.cell 1
                  have r0c2 := r0.cell 2
                  simp at r0c0 r0c1 r0c2
                  have r0lt := r0.lt
                  go_wp2_with fail
                  clear b0c0 b0c1 b0c2 b0lt r0c0 r0c1 r0c2 r0lt
                  clear o0 o1 o2
                  have st := st.drew
                  have b0 := b0.drew
                  have r0 := r0.drew
                  refine wp_region_noPanic ?_
                  refine wp_region_x (S := (fun w' => w'.cell? ⟨ib1, 1, none⟩ = some (.slice (some ⟨gn1, 0, none⟩) (m + 1) cap1) ∧ w'.cell? ⟨ib0, 0, none⟩ = some (.bool leaf) ∧ w'.cell? ⟨ib0, 1, none⟩ = some (.slice (some ad) q cM) ∧ w'.cell? ⟨ib0, 2, none⟩ = some (.slice (some bd) q dM) ∧ w'.cell? (ad.add k) = some (.string (bstr X)))) 10 (by kernel_rfl) ?hS0 (fun hHeld => ?_)
                  case hS0 => (have q0 := st.b.cell 1; have q1 := b0.cell 0; have q2 := b0.cell 1; have q3 := b0.cell 2; simp at q0 q1 q2 q3; exact ⟨q0, q1, q2, q3, ((st.bel).cell (acell_lt c1)).trans c1⟩)
                  generalize hZ : u4.drew = Z0 at *
                  clear hZ
                  refine wpAnyX_free (i := 0) (v := ?_) rfl (by kernel_rfl) (by kernel_rfl) (by kernel_rfl) (by kernel_rfl) (fun _ _ _ h => h) (Or.inl ⟨by kernel_rfl, ?_⟩) (.inr hHeld) ?_
                  rotate_left
                  · (intro w _; go_simp; try with_reducible rfl)
                  try simp only [Act.put, List.getElem_toArray, List.getElem_cons_succ, List.getElem_cons_zero, List.setIfInBounds_toArray, List.set_cons_zero, List.set_cons_succ]
                  refine wpAnyX_take (i := 1) (v := ?_) rfl (by kernel_rfl) (by kernel_rfl) (by kernel_rfl) (by kernel_rfl) (by kernel_rfl) (fun _ _ _ h => h) (Or.inl ⟨by kernel_rfl, ?_⟩) hHeld ?_
                  rotate_left
                  · (intro w hSw; (try dsimp only at hSw); go_simp; try with_reducible rfl)
                  try simp only [Act.put, List.getElem_toArray, List.getElem_cons_succ, List.getElem_cons_zero, List.setIfInBounds_toArray, List.set_cons_zero, List.set_cons_succ]
                  refine wpAnyX_free (i := 2) (v := ?_) rfl (by kernel_rfl) (by kernel_rfl) (by kernel_rfl) (by kernel_rfl) (fun _ _ _ h => h) (Or.inl ⟨by kernel_rfl, ?_⟩) (.inr hHeld) ?_
                  rotate_left
                  · (intro w _; go_simp; try with_reducible rfl)
                  try simp only [Act.put, List.getElem_toArray, List.getElem_cons_succ, List.getElem_cons_zero, List.setIfInBounds_toArray, List.set_cons_zero, List.set_cons_succ]
                  refine wpAnyX_take (i := 3) (v := ?_) rfl (by kernel_rfl) (by kernel_rfl) (by kernel_rfl) (by kernel_rfl) (by kernel_rfl) (fun _ _ _ h => h) (Or.inl ⟨by kernel_rfl, ?_⟩) hHeld ?_
                  rotate_left
                  · (intro w hSw; (try dsimp only at hSw); go_simp; try with_reducible rfl)
                  try simp only [Act.put, List.getElem_toArray, List.getElem_cons_succ, List.getElem_cons_zero, List.setIfInBounds_toArray, List.set_cons_zero, List.set_cons_succ]
                  refine wpAnyX_free (i := 4) (v := ?_) rfl (by kernel_rfl) (by kernel_rfl) (by kernel_rfl) (by kernel_rfl) (fun _ _ _ h => h) (Or.inl ⟨by kernel_rfl, ?_⟩) (.inr hHeld) ?_
                  rotate_left
                  · (intro w _; go_simp; try with_reducible rfl)
                  try simp only [Act.put, List.getElem_toArray, List.getElem_cons_succ, List.getElem_cons_zero, List.setIfInBounds_toArray, List.set_cons_zero, List.set_cons_succ]
                  refine wpAnyX_free (i := 5) (v := ?_) rfl (by kernel_rfl) (by kernel_rfl) (by kernel_rfl) (by kernel_rfl) (fun _ _ _ h => h) (Or.inl ⟨by kernel_rfl, ?_⟩) (.inr hHeld) ?_
                  rotate_left
                  · (intro w _; go_simp; try with_reducible rfl)
                  try simp only [Act.put, List.getElem_toArray, List.getElem_cons_succ, List.getElem_cons_zero, List.setIfInBounds_toArray, List.set_cons_zero, List.set_cons_succ]
                  refine wpAnyX_take (i := 6) (v := ?_) rfl (by kernel_rfl) (by kernel_rfl) (by kernel_rfl) (by kernel_rfl) (by kernel_rfl) (fun _ _ _ h => h) (Or.inl ⟨by kernel_rfl, ?_⟩) hHeld ?_
                  rotate_left
                  · (intro w hSw; (try dsimp only at hSw); go_simp; try with_reducible rfl)
                  try simp only [Act.put, List.getElem_toArray, List.getElem_cons_succ, List.getElem_cons_zero, List.setIfInBounds_toArray, List.set_cons_zero, List.set_cons_succ]
                  refine wpAnyX_ready (rs := [7]) (by kernel_rfl) (by simp) ?_
                  refine (AllReadyX.cons rfl (fun K hK => ?_) AllReadyX.nil)
                  try rw [if_pos (by kernel_rfl)]
                  go_simp
                  obtain ⟨u1, hu1⟩ : ∃ x, Z0.alloc (.cells #[.string (bstr X)] 9) = x := ⟨_, rfl⟩
                  obtain ⟨gB, hgB⟩ : ∃ b, Z0.heap.size = b := ⟨_, rfl⟩
                  have nb : Blk u1 gB 9 #[.string (bstr X)] := by rw [← hu1, ← hgB]; exact Blk.new _ _ _
                  have kB : Below Z0.heap.size Z0 u1 := by rw [← hu1]; exact (Below.refl _ _).alloc (Nat.le_refl _) _
                  have st := st.below kB
                  have b0 := b0.below kB b0.lt
                  have r0 := r0.below kB r0.lt
                  rw [hu1, hgB]
                  clear hu1 hgB kB
                  try dsimp only
                  refine hK.out _ _ (by have q0 := st.b.cell 1; have q1 := b0.cell 0; have q2 := b0.cell 1; have q3 := b0.cell 2; simp at q0 q1 q2 q3; exact ⟨q0, q1, q2, q3, ((st.bel).cell (acell_lt c1)).trans c1⟩) (fun hHeld => ?_)
                  clear hK K
                  try simp only [Act.put, List.getElem_toArray, List.getElem_cons_succ, List.getElem_cons_zero, List.setIfInBounds_toArray, List.set_cons_zero, List.set_cons_succ]
                  refine wpAnyX_ready (rs := [8]) (by kernel_rfl) (by simp) ?_
                  refine (AllReadyX.cons rfl (fun K hK => ?_) AllReadyX.nil)
                  refine step_append_lies _ (by rfl) _ _ 22 (by rfl) wB.heap.size 9 i0 (.string ⟨#[]⟩) 1 16 Try.underlying22 hi0 hz0 hz1 hz2 rfl (by decide) (.slice (some ⟨gn1, 0, none⟩) (m + 1) cap1) (m + 1) _ rfl st.o1 ⟨gB, 0, none⟩ 1 1 [.string (bstr X)] rfl rfl (World.news_of_block nb) (fun u hu => by simp at hu; subst hu; rfl) (by decide) F1.out F2.out st.bel.size _ rfl ?_
                  intro gn1 cap1 u3 hown hgr hat _
                  obtain ⟨bn, oth, belN, stn, othN⟩ := st.app1 (by decide) hown hgr hat
                  clear hown hgr hat nb
                  have b0N := othN _ _ _ b0 (by decide) nb0b1
                  have b0 := oth _ _ _ b0 (by decide) nb0b1
                  have r0N := othN _ _ _ r0 (by decide) nr0b1
                  have r0 := oth _ _ _ r0 (by decide) nr0b1
                  clear oth othN
                  try dsimp only
                  refine hK.out _ _ (by have q0 := bn.cell 1; have q1 := b0.cell 0; have q2 := b0.cell 1; have q3 := b0.cell 2; simp at q0 q1 q2 q3; exact ⟨q0, q1, q2, q3, ((belN).cell (acell_lt c1)).trans c1⟩) (fun hHeld => ?_)
                  clear hK K
                  try simp only [Act.put, List.getElem_toArray, List.getElem_cons_succ, List.getElem_cons_zero, List.setIfInBounds_toArray, List.set_cons_zero, List.set_cons_succ]
                  refine wpAnyX_free (i := 9) (v := ?_) rfl (by kernel_rfl) (by kernel_rfl) (by kernel_rfl) (by kernel_rfl) (fun _ _ _ h => h) (Or.inl ⟨by kernel_rfl, ?_⟩) (.inr hHeld) ?_
                  rotate_left
                  · (intro w _; go_simp; try with_reducible rfl)
                  try simp only [Act.put, List.getElem_toArray, List.getElem_cons_succ, List.getElem_cons_zero, List.setIfInBounds_toArray, List.set_cons_zero, List.set_cons_succ]
                  have zz := bn.frozen 1
                  have zc := bn.cell 1
                  simp at zc
                  refine wpAnyX_ready (rs := [10]) (by kernel_rfl) (by simp) ?_
                  refine (AllReadyX.late rfl (by kernel_rfl) (fun K hK => ?_) AllReadyX.nil)
                  try rw [if_pos (by kernel_rfl)]
                  go_simp
                  try dsimp only
                  refine hK.out _ _ ?_
                  clear hK K
                  try simp only [Act.put, List.getElem_toArray, List.getElem_cons_succ, List.getElem_cons_zero, List.setIfInBounds_toArray, List.set_cons_zero, List.set_cons_succ]
                  refine wpAnyX_done (by kernel_rfl) ?_ _
                  refine NoPanic.normal ?_
                  obtain ⟨u4, hu4⟩ : ∃ x, u3.setCell ⟨ib1, 1, none⟩ (.slice (some ⟨gn1, 0, none⟩) ((m + 1) + 1) cap1) = x := ⟨_, rfl⟩
                  rw [hu4] at stn b0N r0N ⊢
                  clear hu4 bn st zz zc belN
                  have st := stn
                  have b0 := b0N
                  have r0 := r0N
                  clear stn b0N r0N
                  have o0 := st.b.cell 0
                  have o1 := st.b.cell 1
                  have o2 := st.b.cell 2
                  simp at o0 o1 o2
                  have b0c0 := b0.cell 0
                  have b0c1 := b0.cell 1
                  have b0c2 := b0.cell 2
                  simp at b0c0 b0c1 b0c2
                  have b0lt := b0.lt
                  have r0c0 := r0.cell 0
                  have r0c1 := r0.cell 1
                  have r0c2 := r0.cell 2
                  simp at r0c0 r0c1 r0c2
                  have r0lt := r0.lt
                  go_wp2_with fail
                  clear b0c0 b0c1 b0c2 b0lt r0c0 r0c1 r0c2 r0lt
                  clear o0 o1 o2
                  have st := st.drew
                  have b0 := b0.drew
                  have r0 := r0.drew
                  refine wp_region_noPanic ?_
                  refine wp_region_x (S := (fun w' => w'.cell? ⟨ib1, 2, none⟩ = some (.slice (some ⟨gn2, 0, none⟩) (m + 1) cap2) ∧ w'.cell? ⟨ib0, 0, none⟩ = some (.bool leaf) ∧ w'.cell? ⟨ib0, 1, none⟩ = some (.slice (some ad) q cM) ∧ w'.cell? ⟨ib0, 2, none⟩ = some (.slice (some bd) q dM) ∧ w'.cell? (bd.add k) = some (.string (bstr Y)))) 10 (by kernel_rfl) ?hS0 (fun hHeld => ?_)
                  case hS0 => (have q0 := st.b.cell 2; have q1 := b0.cell 0; have q2 := b0.cell 1; have q3 := b0.cell 2; simp at q0 q1 q2 q3; exact ⟨q0, q1, q2, q3, ((st.bel).cell (acell_lt c2)).trans c2⟩)
                  generalize hZ : u4.drew = Z0 at *
                  clear hZ
                  refine wpAnyX_free (i := 0) (v := ?_) rfl (by kernel_rfl) (by kernel_rfl) (by kernel_rfl) (by kernel_rfl) (fun _ _ _ h => h) (Or.inl ⟨by kernel_rfl, ?_⟩) (.inr hHeld) ?_
                  rotate_left
                  · (intro w _; go_simp; try with_reducible rfl)
                  try simp only [Act.put, List.getElem_toArray, List.getElem_cons_succ, List.getElem_cons_zero, List.setIfInBounds_toArray, List.set_cons_zero, List.set_cons_succ]
                  refine wpAnyX_take (i := 1) (v := ?_) rfl (by kernel_rfl) (by kernel_rfl) (by kernel_rfl) (by kernel_rfl) (by kernel_rfl) (fun _ _ _ h => h) (Or.inl ⟨by kernel_rfl, ?_⟩) hHeld ?_
                  rotate_left
                  · (intro w hSw; (try dsimp only at hSw); go_simp; try with_reducible rfl)
                  try simp only [Act.put, List.getElem_toArray, List.getElem_cons_succ, List.getElem_cons_zero, List.setIfInBounds_toArray, List.set_cons_zero, List.set_cons_succ]
                  refine wpAnyX_free (i := 2) (v := ?_) rfl (by kernel_rfl) (by kernel_rfl) (by kernel_rfl) (by kernel_rfl) (fun _ _ _ h => h) (Or.inl ⟨by kernel_rfl, ?_⟩) (.inr hHeld) ?_
                  rotate_left
                  · (intro w _; go_simp; try with_reducible rfl)
                  try simp only [Act.put, List.getElem_toArray, List.getElem_cons_succ, List.getElem_cons_zero, List.setIfInBounds_toArray, List.set_cons_zero, List.set_cons_succ]
                  refine wpAnyX_take (i := 3) (v := ?_) rfl (by kernel_rfl) (by kernel_rfl) (by kernel_rfl) (by kernel_rfl) (by kernel_rfl) (fun _ _ _ h => h) (Or.inl ⟨by kernel_rfl, ?_⟩) hHeld ?_
                  rotate_left
                  · (intro w hSw; (try dsimp only at hSw); go_simp; try with_reducible rfl)
                  try simp only [Act.put, List.getElem_toArray, List.getElem_cons_succ, List.getElem_cons_zero, List.setIfInBounds_toArray, List.set_cons_zero, List.set_cons_succ]
                  refine wpAnyX_free (i := 4) (v := ?_) rfl (by kernel_rfl) (by kernel_rfl) (by kernel_rfl) (by kernel_rfl) (fun _ _ _ h => h) (Or.inl ⟨by kernel_rfl, ?_⟩) (.inr hHeld) ?_
                  rotate_left
                  · (intro w _; go_simp; try with_reducible rfl)
                  try simp only [Act.put, List.getElem_toArray, List.getElem_cons_succ, List.getElem_cons_zero, List.setIfInBounds_toArray, List.set_cons_zero, List.set_cons_succ]
                  refine wpAnyX_free (i := 5) (v := ?_) rfl (by kernel_rfl) (by kernel_rfl) (by kernel_rfl) (by kernel_rfl) (fun _ _ _ h => h) (Or.inl ⟨by kernel_rfl, ?_⟩) (.inr hHeld) ?_
                  rotate_left
                  · (intro w _; go_simp; try with_reducible rfl)
                  try simp only [Act.put, List.getElem_toArray, List.getElem_cons_succ, List.getElem_cons_zero, List.setIfInBounds_toArray, List.set_cons_zero, List.set_cons_succ]
                  refine wpAnyX_take (i := 6) (v := ?_) rfl (by kernel_rfl) (by kernel_rfl) (by kernel_rfl) (by kernel_rfl) (by kernel_rfl) (fun _ _ _ h => h) (Or.inl ⟨by kernel_rfl, ?_⟩) hHeld ?_
                  rotate_left
                  · (intro w hSw; (try dsimp only at hSw); go_simp; try with_reducible rfl)
                  try simp only [Act.put, List.getElem_toArray, List.getElem_cons_succ, List.getElem_cons_zero, List.setIfInBounds_toArray, List.set_cons_zero, List.set_cons_succ]
                  refine wpAnyX_ready (rs := [7]) (by kernel_rfl) (by simp) ?_
                  refine (AllReadyX.cons rfl (fun K hK => ?_) AllReadyX.nil)
                  try rw [if_pos (by kernel_rfl)]
                  go_simp
                  obtain ⟨u1, hu1⟩ : ∃ x, Z0.alloc (.cells #[.string (bstr Y)] 9) = x := ⟨_, rfl⟩
                  obtain ⟨gB, hgB⟩ : ∃ b, Z0.heap.size = b := ⟨_, rfl⟩
                  have nb : Blk u1 gB 9 #[.string (bstr Y)] := by rw [← hu1, ← hgB]; exact Blk.new _ _ _
                  have kB : Below Z0.heap.size Z0 u1 := by rw [← hu1]; exact (Below.refl _ _).alloc (Nat.le_refl _) _
                  have st := st.below kB
                  have b0 := b0.below kB b0.lt
                  have r0 := r0.below kB r0.lt
                  rw [hu1, hgB]
                  clear hu1 hgB kB
                  try dsimp only
                  refine hK.out _ _ (by have q0 := st.b.cell 2; have q1 := b0.cell 0; have q2 := b0.cell 1; have q3 := b0.cell 2; simp at q0 q1 q2 q3; exact ⟨q0, q1, q2, q3, ((st.bel).cell (acell_lt c2)).trans c2⟩) (fun hHeld => ?_)
                  clear hK K
                  try simp only [Act.put, List.getElem_toArray, List.getElem_cons_succ, List.getElem_cons_zero, List.setIfInBounds_toArray, List.set_cons_zero, List.set_cons_succ]
                  refine wpAnyX_ready (rs := [8]) (by kernel_rfl) (by simp) ?_
                  refine (AllReadyX.cons rfl (fun K hK => ?_) AllReadyX.nil)
                  refine step_append_lies _ (by rfl) _ _ 22 (by rfl) wB.heap.size 9 i0 (.string ⟨#[]⟩) 1 16 Try.underlying22 hi0 hz0 hz1 hz2 rfl (by decide) (.slice (some ⟨gn2, 0, none⟩) (m + 1) cap2) (m + 1) _ rfl st.o2 ⟨gB, 0, none⟩ 1 1 [.string (bstr Y)] rfl rfl (World.news_of_block nb) (fun u hu => by simp at hu; subst hu; rfl) (by decide) F1.out F2.out st.bel.size _ rfl ?_
                  intro gn2 cap2 u3 hown hgr hat _
                  obtain ⟨bn, oth, belN, stn, othN⟩ := st.app2 (by decide) hown hgr hat
                  clear hown hgr hat nb
                  have b0N := othN _ _ _ b0 (by decide) nb0b1
                  have b0 := oth _ _ _ b0 (by decide) nb0b1
                  have r0N := othN _ _ _ r0 (by decide) nr0b1
                  have r0 := oth _ _ _ r0 (by decide) nr0b1
                  clear oth othN
                  try dsimp only
                  refine hK.out _ _ (by have q0 := bn.cell 2; have q1 := b0.cell 0; have q2 := b0.cell 1; have q3 := b0.cell 2; simp at q0 q1 q2 q3; exact ⟨q0, q1, q2, q3, ((belN).cell (acell_lt c2)).trans c2⟩) (fun hHeld => ?_)
                  clear hK K
                  try simp only [Act.put, List.getElem_toArray, List.getElem_cons_succ, List.getElem_cons_zero, List.setIfInBounds_toArray, List.set_cons_zero, List.set_cons_succ]
                  refine wpAnyX_free (i := 9) (v := ?_) rfl (by kernel_rfl) (by kernel_rfl) (by kernel_rfl) (by kernel_rfl) (fun _ _ _ h => h) (Or.inl ⟨by kernel_rfl, ?_⟩) (.inr hHeld) ?_
                  rotate_left
                  · (intro w _; go_simp; try with_reducible rfl)
                  try simp only [Act.put, List.getElem_toArray, List.getElem_cons_succ, List.getElem_cons_zero, List.setIfInBounds_toArray, List.set_cons_zero, List.set_cons_succ]
                  have zz := bn.frozen 2
                  have zc := bn.cell 2
                  simp at zc
                  refine wpAnyX_ready (rs := [10]) (by kernel_rfl) (by simp) ?_
                  refine (AllReadyX.late rfl (by kernel_rfl) (fun K hK => ?_) AllReadyX.nil)
                  try rw [if_pos (by kernel_rfl)]
                  go_simp
                  try dsimp only
                  refine hK.out _ _ ?_
                  clear hK K
                  try simp only [Act.put, List.getElem_toArray, List.getElem_cons_succ, List.getElem_cons_zero, List.setIfInBounds_toArray, List.set_cons_zero, List.set_cons_succ]
                  refine wpAnyX_done (by kernel_rfl) ?_ _
                  refine NoPanic.normal ?_
                  obtain ⟨u4, hu4⟩ : ∃ x, u3.setCell ⟨ib1, 2, none⟩ (.slice (some ⟨gn2, 0, none⟩) ((m + 1) + 1) cap2) = x := ⟨_, rfl⟩
                  rw [hu4] at stn b0N r0N ⊢
                  clear hu4 bn st zz zc belN
                  have st := stn
                  have b0 := b0N
                  have r0 := r0N
                  clear stn b0N r0N
                  have hmk1 := hmk0.out
                  go_wp2
                  go_roundw
                  case rel => exact ⟨k + 1, m + 1 + 1, _, _, by omega, by omega, by go_num, by rw [HN1.out], Lib.hid (by rw [HN1.out]; intro h; cases h), by rw [HN1.out, HN2.out]; exact st, b0, r0⟩
                  case measure => simp [intOf]; omega
              · have hb0 : Op.bytesLess key (mk.getD k []) = false := by rw [hX]; exact bl_asym hb
                have hn1 := rwi_add hb0 key mk (.inr rfl)
                have hn2 := rwi_add hb0 val mv (.inr rfl)
                clear hb0
                rw [hlb, hL1, hX] at hn1
                rw [hlb2, hL2, hY] at hn2
                have HN1 := Lib.hid hn1
                have HN2 := Lib.hid hn2
                have F1 := Lib.hid (show m + 1 ≤ maxLen by unfold maxLen; omega)
                have F2 := Lib.hid (show (m + 1) * 16 ≤ 140737488355328 by omega)
                clear hn1 hn2 hlb hlb2 hL1 hL2 hX hY
                have o0 := st.b.cell 0
                have o1 := st.b.cell 1
                have o2 := st.b.cell 2
                simp at o0 o1 o2
                have b0c0 := b0.cell 0
                have b0c1 := b0.cell 1
                have b0c2 := b0.cell 2
                simp at b0c0 b0c1 b0c2
                have b0lt := b0.lt
                have r0c0 := r0.cell 0
                have r0c1 := r0.cell 1
                have r0c2 := r0.cell 2
                simp at r0c0 r0c1 r0c2
                have r0lt := r0.lt
                go_wp2_with fail
                clear b0c0 b0c1 b0c2 b0lt r0c0 r0c1 r0c2 r0lt
                clear o0 o1 o2
                have st := st.drew
                have b0 := b0.drew
                have r0 := r0.drew
                refine wp_region_noPanic ?_
                refine wp_region_x (S := (fun w' => w'.cell? ⟨ib1, 1, none⟩ = some (.slice A1 m cA) ∧ w'.cell? ⟨ib0, 0, none⟩ = some (.bool leaf) ∧ w'.cell? ⟨ib0, 1, none⟩ = some (.slice (some ad) q cM) ∧ w'.cell? ⟨ib0, 2, none⟩ = some (.slice (some bd) q dM) ∧ w'.cell? (ad.add k) = some (.string (bstr X)))) 10 (by kernel_rfl) ?hS0 (fun hHeld => ?_)
                case hS0 => (have q0 := st.b.cell 1; have q1 := b0.cell 0; have q2 := b0.cell 1; have q3 := b0.cell 2; simp at q0 q1 q2 q3; exact ⟨q0, q1, q2, q3, ((st.bel).cell (acell_lt c1)).trans c1⟩)
                generalize hZ : wr.drew = Z0 at *
                clear hZ
                refine wpAnyX_free (i := 0) (v := ?_) rfl (by kernel_rfl) (by kernel_rfl) (by kernel_rfl) (by kernel_rfl) (fun _ _ _ h => h) (Or.inl ⟨by kernel_rfl, ?_⟩) (.inr hHeld) ?_
                rotate_left
                · (intro w _; go_simp; try with_reducible rfl)
                try simp only [Act.put, List.getElem_toArray, List.getElem_cons_succ, List.getElem_cons_zero, List.setIfInBounds_toArray, List.set_cons_zero, List.set_cons_succ]
                refine wpAnyX_take (i := 1) (v := ?_) rfl (by kernel_rfl) (by kernel_rfl) (by kernel_rfl) (by kernel_rfl) (by kernel_rfl) (fun _ _ _ h => h) (Or.inl ⟨by kernel_rfl, ?_⟩) hHeld ?_
                rotate_left
                · (intro w hSw; (try dsimp only at hSw); go_simp; try with_reducible rfl)
                try simp only [Act.put, List.getElem_toArray, List.getElem_cons_succ, List.getElem_cons_zero, List.setIfInBounds_toArray, List.set_cons_zero, List.set_cons_succ]
                refine wpAnyX_free (i := 2) (v := ?_) rfl (by kernel_rfl) (by kernel_rfl) (by kernel_rfl) (by kernel_rfl) (fun _ _ _ h => h) (Or.inl ⟨by kernel_rfl, ?_⟩) (.inr hHeld) ?_
                rotate_left
                · (intro w _; go_simp; try with_reducible rfl)
                try simp only [Act.put, List.getElem_toArray, List.getElem_cons_succ, List.getElem_cons_zero, List.setIfInBounds_toArray, List.set_cons_zero, List.set_cons_succ]
                refine wpAnyX_take (i := 3) (v := ?_) rfl (by kernel_rfl) (by kernel_rfl) (by kernel_rfl) (by kernel_rfl) (by kernel_rfl) (fun _ _ _ h => h) (Or.inl ⟨by kernel_rfl, ?_⟩) hHeld ?_
                rotate_left
                · (intro w hSw; (try dsimp only at hSw); go_simp; try with_reducible rfl)
                try simp only [Act.put, List.getElem_toArray, List.getElem_cons_succ, List.getElem_cons_zero, List.setIfInBounds_toArray, List.set_cons_zero, List.set_cons_succ]
                refine wpAnyX_free (i := 4) (v := ?_) rfl (by kernel_rfl) (by kernel_rfl) (by kernel_rfl) (by kernel_rfl) (fun _ _ _ h => h) (Or.inl ⟨by kernel_rfl, ?_⟩) (.inr hHeld) ?_
                rotate_left
                · (intro w _; go_simp; try with_reducible rfl)
                try simp only [Act.put, List.getElem_toArray, List.getElem_cons_succ, List.getElem_cons_zero, List.setIfInBounds_toArray, List.set_cons_zero, List.set_cons_succ]
                refine wpAnyX_free (i := 5) (v := ?_) rfl (by kernel_rfl) (by kernel_rfl) (by kernel_rfl) (by kernel_rfl) (fun _ _ _ h => h) (Or.inl ⟨by kernel_rfl, ?_⟩) (.inr hHeld) ?_
                rotate_left
                · (intro w _; go_simp; try with_reducible rfl)
                try simp only [Act.put, List.getElem_toArray, List.getElem_cons_succ, List.getElem_cons_zero, List.setIfInBounds_toArray, List.set_cons_zero, List.set_cons_succ]
                refine wpAnyX_take (i := 6) (v := ?_) rfl (by kernel_rfl) (by kernel_rfl) (by kernel_rfl) (by kernel_rfl) (by kernel_rfl) (fun _ _ _ h => h) (Or.inl ⟨by kernel_rfl, ?_⟩) hHeld ?_
                rotate_left
                · (intro w hSw; (try dsimp only at hSw); go_simp; try with_reducible rfl)
                try simp only [Act.put, List.getElem_toArray, List.getElem_cons_succ, List.getElem_cons_zero, List.setIfInBounds_toArray, List.set_cons_zero, List.set_cons_succ]
                refine wpAnyX_ready (rs := [7]) (by kernel_rfl) (by simp) ?_
                refine (AllReadyX.cons rfl (fun K hK => ?_) AllReadyX.nil)
                try rw [if_pos (by kernel_rfl)]
                go_simp
                obtain ⟨u1, hu1⟩ : ∃ x, Z0.alloc (.cells #[.string (bstr X)] 9) = x := ⟨_, rfl⟩
                obtain ⟨gB, hgB⟩ : ∃ b, Z0.heap.size = b := ⟨_, rfl⟩
                have nb : Blk u1 gB 9 #[.string (bstr X)] := by rw [← hu1, ← hgB]; exact Blk.new _ _ _
                have kB : Below Z0.heap.size Z0 u1 := by rw [← hu1]; exact (Below.refl _ _).alloc (Nat.le_refl _) _
                have st := st.below kB
                have b0 := b0.below kB b0.lt
                have r0 := r0.below kB r0.lt
                rw [hu1, hgB]
                clear hu1 hgB kB
                try dsimp only
                refine hK.out _ _ (by have q0 := st.b.cell 1; have q1 := b0.cell 0; have q2 := b0.cell 1; have q3 := b0.cell 2; simp at q0 q1 q2 q3; exact ⟨q0, q1, q2, q3, ((st.bel).cell (acell_lt c1)).trans c1⟩) (fun hHeld => ?_)
                clear hK K
                try simp only [Act.put, List.getElem_toArray, List.getElem_cons_succ, List.getElem_cons_zero, List.setIfInBounds_toArray, List.set_cons_zero, List.set_cons_succ]
                refine wpAnyX_ready (rs := [8]) (by kernel_rfl) (by simp) ?_
                refine (AllReadyX.cons rfl (fun K hK => ?_) AllReadyX.nil)
                refine step_append_lies _ (by rfl) _ _ 22 (by rfl) wB.heap.size 9 i0 (.string ⟨#[]⟩) 1 16 Try.underlying22 hi0 hz0 hz1 hz2 rfl (by decide) (.slice A1 m cA) m _ rfl st.o1 ⟨gB, 0, none⟩ 1 1 [.string (bstr X)] rfl rfl (World.news_of_block nb) (fun u hu => by simp at hu; subst hu; rfl) (by decide) F1.out F2.out st.bel.size _ rfl ?_
                intro gn1 cap1 u3 hown hgr hat _
                obtain ⟨bn, oth, belN, stn, othN⟩ := st.app1 (by decide) hown hgr hat
                clear hown hgr hat nb
                have b0N := othN _ _ _ b0 (by decide) nb0b1
                have b0 := oth _ _ _ b0 (by decide) nb0b1
                have r0N := othN _ _ _ r0 (by decide) nr0b1
                have r0 := oth _ _ _ r0 (by decide) nr0b1
                clear oth othN
                try dsimp only
                refine hK.out _ _ (by have q0 := bn.cell 1; have q1 := b0.cell 0; have q2 := b0.cell 1; have q3 := b0.cell 2; simp at q0 q1 q2 q3; exact ⟨q0, q1, q2, q3, ((belN).cell (acell_lt c1)).trans c1⟩) (fun hHeld => ?_)
                clear hK K
                try simp only [Act.put, List.getElem_toArray, List.getElem_cons_succ, List.getElem_cons_zero, List.setIfInBounds_toArray, List.set_cons_zero, List.set_cons_succ]
                refine wpAnyX_free (i := 9) (v := ?_) rfl (by kernel_rfl) (by kernel_rfl) (by kernel_rfl) (by kernel_rfl) (fun _ _ _ h => h) (Or.inl ⟨by kernel_rfl, ?_⟩) (.inr hHeld) ?_
                rotate_left
                · (intro w _; go_simp; try with_reducible rfl)
                try simp only [Act.put, List.getElem_toArray, List.getElem_cons_succ, List.getElem_cons_zero, List.setIfInBounds_toArray, List.set_cons_zero, List.set_cons_succ]
                have zz := bn.frozen 1
                have zc := bn.cell 1
                simp at zc
                refine wpAnyX_ready (rs := [10]) (by kernel_rfl) (by simp) ?_
                refine (AllReadyX.late rfl (by kernel_rfl) (fun K hK => ?_) AllReadyX.nil)
                try rw [if_pos (by kernel_rfl)]
                go_simp
                try dsimp only
                refine hK.out _ _ ?_
                clear hK K
                try simp only [Act.put, List.getElem_toArray, List.getElem_cons_succ, List.getElem_cons_zero, List.setIfInBounds_toArray, List.set_cons_zero, List.set_cons_succ]
                refine wpAnyX_done (by kernel_rfl) ?_ _
                refine NoPanic.normal ?_
                obtain ⟨u4, hu4⟩ : ∃ x, u3.setCell ⟨ib1, 1, none⟩ (.slice (some ⟨gn1, 0, none⟩) (m + 1) cap1) = x := ⟨_, rfl⟩
                rw [hu4] at stn b0N r0N ⊢
                clear hu4 bn st zz zc belN
                have st := stn
                have b0 := b0N
                have r0 := r0N
                clear stn b0N r0N
                have o0 := st.b.cell 0
                have o1 := st.b.cell 1
                have o2 := st.b.cell 2
                simp at o0 o1 o2
                have b0c0 := b0.cell 0
                have b0c1 := b0.cell 1
                have b0c2 := b0.cell 2
                simp at b0c0 b0c1 b0c2
                have b0lt := b0.lt
                have r0c0 := r0.cell 0
                have r0c1 := r0.cell 1
                have r0c2 := r0.cell 2
                simp at r0c0 r0c1 r0c2
                have r0lt := r0.lt
                go_wp2_with fail
                clear b0c0 b0c1 b0c2 b0lt r0c0 r0c1 r0c2 r0lt
                clear o0 o1 o2
                have st := st.drew
                have b0 := b0.drew
                have r0 := r0.drew
                refine wp_region_noPanic ?_
                refine wp_region_x (S := (fun w' => w'.cell? ⟨ib1, 2, none⟩ = some (.slice C1 m d1) ∧ w'.cell? ⟨ib0, 0, none⟩ = some (.bool leaf) ∧ w'.cell? ⟨ib0, 1, none⟩ = some (.slice (some ad) q cM) ∧ w'.cell? ⟨ib0, 2, none⟩ = some (.slice (some bd) q dM) ∧ w'.cell? (bd.add k) = some (.string (bstr Y)))) 10 (by kernel_rfl) ?hS0 (fun hHeld => ?_)
                case hS0 => (have q0 := st.b.cell 2; have q1 := b0.cell 0; have q2 := b0.cell 1; have q3 := b0.cell 2; simp at q0 q1 q2 q3; exact ⟨q0, q1, q2, q3, ((st.bel).cell (acell_lt c2)).trans c2⟩)
                generalize hZ : u4.drew = Z0 at *
                clear hZ
                refine wpAnyX_free (i := 0) (v := ?_) rfl (by kernel_rfl) (by kernel_rfl) (by kernel_rfl) (by kernel_rfl) (fun _ _ _ h => h) (Or.inl ⟨by kernel_rfl, ?_⟩) (.inr hHeld) ?_
                rotate_left
                · (intro w _; go_simp; try with_reducible rfl)
                try simp only [Act.put, List.getElem_toArray, List.getElem_cons_succ, List.getElem_cons_zero, List.setIfInBounds_toArray, List.set_cons_zero, List.set_cons_succ]
                refine wpAnyX_take (i := 1) (v := ?_) rfl (by kernel_rfl) (by kernel_rfl) (by kernel_rfl) (by kernel_rfl) (by kernel_rfl) (fun _ _ _ h => h) (Or.inl ⟨by kernel_rfl, ?_⟩) hHeld ?_
                rotate_left
                · (intro w hSw; (try dsimp only at hSw); go_simp; try with_reducible rfl)
                try simp only [Act.put, List.getElem_toArray, List.getElem_cons_succ, List.getElem_cons_zero, List.setIfInBounds_toArray, List.set_cons_zero, List.set_cons_succ]
                refine wpAnyX_free (i := 2) (v := ?_) rfl (by kernel_rfl) (by kernel_rfl) (by kernel_rfl) (by kernel_rfl) (fun _ _ _ h => h) (Or.inl ⟨by kernel_rfl, ?_⟩) (.inr hHeld) ?_
                rotate_left
                · (intro w _; go_simp; try with_reducible rfl)
                try simp only [Act.put, List.getElem_toArray, List.getElem_cons_succ, List.getElem_cons_zero, List.setIfInBounds_toArray, List.set_cons_zero, List.set_cons_succ]
                refine wpAnyX_take (i := 3) (v := ?_) rfl (by kernel_rfl) (by kernel_rfl) (by kernel_rfl) (by kernel_rfl) (by kernel_rfl) (fun _ _ _ h => h) (Or.inl ⟨by kernel_rfl, ?_⟩) hHeld ?_
                rotate_left
                · (intro w hSw; (try dsimp only at hSw); go_simp; try with_reducible rfl)
                try simp only [Act.put, List.getElem_toArray, List.getElem_cons_succ, List.getElem_cons_zero, List.setIfInBounds_toArray, List.set_cons_zero, List.set_cons_succ]
                refine wpAnyX_free (i := 4) (v := ?_) rfl (by kernel_rfl) (by kernel_rfl) (by kernel_rfl) (by kernel_rfl) (fun _ _ _ h => h) (Or.inl ⟨by kernel_rfl, ?_⟩) (.inr hHeld) ?_
                rotate_left
                · (intro w _; go_simp; try with_reducible rfl)
                try simp only [Act.put, List.getElem_toArray, List.getElem_cons_succ, List.getElem_cons_zero, List.setIfInBounds_toArray, List.set_cons_zero, List.set_cons_succ]
                refine wpAnyX_free (i := 5) (v := ?_) rfl (by kernel_rfl) (by kernel_rfl) (by kernel_rfl) (by kernel_rfl) (fun _ _ _ h => h) (Or.inl ⟨by kernel_rfl, ?_⟩) (.inr hHeld) ?_
                rotate_left
                · (intro w _; go_simp; try with_reducible rfl)
                try simp only [Act.put, List.getElem_toArray, List.getElem_cons_succ, List.getElem_cons_zero, List.setIfInBounds_toArray, List.set_cons_zero, List.set_cons_succ]
                refine wpAnyX_take (i := 6) (v := ?_) rfl (by kernel_rfl) (by kernel_rfl) (by kernel_rfl) (by kernel_rfl) (by kernel_rfl) (fun _ _ _ h => h) (Or.inl ⟨by kernel_rfl, ?_⟩) hHeld ?_
                rotate_left
                · (intro w hSw; (try dsimp only at hSw); go_simp; try with_reducible rfl)
                try simp only [Act.put, List.getElem_toArray, List.getElem_cons_succ, List.getElem_cons_zero, List.setIfInBounds_toArray, List.set_cons_zero, List.set_cons_succ]
                refine wpAnyX_ready (rs := [7]) (by kernel_rfl) (by simp) ?_
                refine (AllReadyX.cons rfl (fun K hK => ?_) AllReadyX.nil)
                try rw [if_pos (by kernel_rfl)]
                go_simp
                obtain ⟨u1, hu1⟩ : ∃ x, Z0.alloc (.cells #[.string (bstr Y)] 9) = x := ⟨_, rfl⟩
                obtain ⟨gB, hgB⟩ : ∃ b, Z0.heap.size = b := ⟨_, rfl⟩
                have nb : Blk u1 gB 9 #[.string (bstr Y)] := by rw [← hu1, ← hgB]; exact Blk.new _ _ _
                have kB : Below Z0.heap.size Z0 u1 := by rw [← hu1]; exact (Below.refl _ _).alloc (Nat.le_refl _) _
                have st := st.below kB
                have b0 := b0.below kB b0.lt
                have r0 := r0.below kB r0.lt
                rw [hu1, hgB]
                clear hu1 hgB kB
                try dsimp only
                refine hK.out _ _ (by have q0 := st.b.cell 2; have q1 := b0.cell 0; have q2 := b0.cell 1; have q3 := b0.cell 2; simp at q0 q1 q2 q3; exact ⟨q0, q1, q2, q3, ((st.bel).cell (acell_lt c2)).trans c2⟩) (fun hHeld => ?_)
                clear hK K
                try simp only [Act.put, List.getElem_toArray, List.getElem_cons_succ, List.getElem_cons_zero, List.setIfInBounds_toArray, List.set_cons_zero, List.set_cons_succ]
                refine wpAnyX_ready (rs := [8]) (by kernel_rfl) (by simp) ?_
                refine (AllReadyX.cons rfl (fun K hK => ?_) AllReadyX.nil)
                refine step_append_lies _ (by rfl) _ _ 22 (by rfl) wB.heap.size 9 i0 (.string ⟨#[]⟩) 1 16 Try.underlying22 hi0 hz0 hz1 hz2 rfl (by decide) (.slice C1 m d1) m _ rfl st.o2 ⟨gB, 0, none⟩ 1 1 [.string (bstr Y)] rfl rfl (World.news_of_block nb) (fun u hu => by simp at hu; subst hu; rfl) (by decide) F1.out F2.out st.bel.size _ rfl ?_
                intro gn2 cap2 u3 hown hgr hat _
                obtain ⟨bn, oth, belN, stn, othN⟩ := st.app2 (by decide) hown hgr hat
                clear hown hgr hat nb
                have b0N := othN _ _ _ b0 (by decide) nb0b1
                have b0 := oth _ _ _ b0 (by decide) nb0b1
                have r0N := othN _ _ _ r0 (by decide) nr0b1
                have r0 := oth _ _ _ r0 (by decide) nr0b1
                clear oth othN
                try dsimp only
                refine hK.out _ _ (by have q0 := bn.cell 2; have q1 := b0.cell 0; have q2 := b0.cell 1; have q3 := b0.cell 2; simp at q0 q1 q2 q3; exact ⟨q0, q1, q2, q3, ((belN).cell (acell_lt c2)).trans c2⟩) (fun hHeld => ?_)
                clear hK K
                try simp only [Act.put, List.getElem_toArray, List.getElem_cons_succ, List.getElem_cons_zero, List.setIfInBounds_toArray, List.set_cons_zero, List.set_cons_succ]
                refine wpAnyX_free (i := 9) (v := ?_) rfl (by kernel_rfl) (by kernel_rfl) (by kernel_rfl) (by kernel_rfl) (fun _ _ _ h => h) (Or.inl ⟨by kernel_rfl, ?_⟩) (.inr hHeld) ?_
                rotate_left
                · (intro w _; go_simp; try with_reducible rfl)
                try simp only [Act.put, List.getElem_toArray, List.getElem_cons_succ, List.getElem_cons_zero, List.setIfInBounds_toArray, List.set_cons_zero, List.set_cons_succ]
                have zz := bn.frozen 2
                have zc := bn.cell 2
                simp at zc
                refine wpAnyX_ready (rs := [10]) (by kernel_rfl) (by simp) ?_
                refine (AllReadyX.late rfl (by kernel_rfl) (fun K hK => ?_) AllReadyX.nil)
                try rw [if_pos (by kernel_rfl)]
                go_simp
                try dsimp only
                refine hK.out _ _ ?_
                clear hK K
                try simp only [Act.put, List.getElem_toArray, List.getElem_cons_succ, List.getElem_cons_zero, List.setIfInBounds_toArray, List.set_cons_zero, List.set_cons_succ]
                refine wpAnyX_done (by kernel_rfl) ?_ _
                refine NoPanic.normal ?_
                obtain ⟨u4, hu4⟩ : ∃ x, u3.setCell ⟨ib1, 2, none⟩ (.slice (some ⟨gn2, 0, none⟩) (m + 1) cap2) = x := ⟨_, rfl⟩
                rw [hu4] at stn b0N r0N ⊢
                clear hu4 bn st zz zc belN
                have st := stn
                have b0 := b0N
                have r0 := r0N
                clear stn b0N r0N
                go_wp2
                go_roundw
                case rel => exact ⟨k + 1, m + 1, _, _, by omega, by omega, by go_num, by rw [HN1.out], Lib.hid (by rw [HN1.out]; intro h; have := hmk0.out; omega), by rw [HN1.out, HN2.out]; exact st, b0, r0⟩
                case measure => simp [intOf]; omega
            · rw [hlq] at hlb hlb2 HML
              clear hlq
              have hn1 := rwi_add (b := Op.bytesLess key (mk.getD k [])) rfl key mk (.inl hlb)
              have hn2 := rwi_add (b := Op.bytesLess key (mk.getD k [])) rfl val mv (.inl hlb2)
              clear HML
              rw [hlb, hL1, hX] at hn1
              rw [hlb2, hL2, hY] at hn2
              have HN1 := Lib.hid hn1
              have HN2 := Lib.hid hn2
              have F1 := Lib.hid (show m + 1 ≤ maxLen by unfold maxLen; omega)
              have F2 := Lib.hid (show (m + 1) * 16 ≤ 140737488355328 by omega)
              clear hn1 hn2 hlb hlb2 hL1 hL2 hX hY
              have o0 := st.b.cell 0
              have o1 := st.b.cell 1
              have o2 := st.b.cell 2
              simp at o0 o1 o2
              have b0c0 := b0.cell 0
              have b0c1 := b0.cell 1
              have b0c2 := b0.cell 2
              simp at b0c0 b0c1 b0c2
              have b0lt := b0.lt
              have r0c0 := r0.cell 0
              have r0c1 := r0.cell 1
              have r0c2 := r0.cell 2
              simp at r0c0 r0c1 r0c2
              have r0lt := r0.lt
              go_wp2_with fail
              clear b0c0 b0c1 b0c2 b0lt r0c0 r0c1 r0c2 r0lt
              clear o0 o1 o2
              have st := st.drew
              have b0 := b0.drew
              have r0 := r0.drew
              refine wp_region_noPanic ?_
              refine wp_region_x (S := (fun w' => w'.cell? ⟨ib1, 1, none⟩ = some (.slice A1 m cA) ∧ w'.cell? ⟨ib0, 0, none⟩ = some (.bool leaf) ∧ w'.cell? ⟨ib0, 1, none⟩ = some (.slice (some ad) q cM) ∧ w'.cell? ⟨ib0, 2, none⟩ = some (.slice (some bd) q dM) ∧ w'.cell? (ad.add k) = some (.string (bstr X)))) 10 (by kernel_rfl) ?hS0 (fun hHeld => ?_)
              case hS0 => (have q0 := st.b.cell 1; have q1 := b0.cell 0; have q2 := b0.cell 1; have q3 := b0.cell 2; simp at q0 q1 q2 q3; exact ⟨q0, q1, q2, q3, ((st.bel).cell (acell_lt c1)).trans c1⟩)
              generalize hZ : wr.drew = Z0 at *
              clear hZ
              refine wpAnyX_free (i := 0) (v := ?_) rfl (by kernel_rfl) (by kernel_rfl) (by kernel_rfl) (by kernel_rfl) (fun _ _ _ h => h) (Or.inl ⟨by kernel_rfl, ?_⟩) (.inr hHeld) ?_
              rotate_left
              · (intro w _; go_simp; try with_reducible rfl)
              try simp only [Act.put, List.getElem_toArray, List.getElem_cons_succ, List.getElem_cons_zero, List.setIfInBounds_toArray, List.set_cons_zero, List.set_cons_succ]
              refine wpAnyX_take (i := 1) (v := ?_) rfl (by kernel_rfl) (by kernel_rfl) (by kernel_rfl) (by kernel_rfl) (by kernel_rfl) (fun _ _ _ h => h) (Or.inl ⟨by kernel_rfl, ?_⟩) hHeld ?_
              rotate_left
              · (intro w hSw; (try dsimp only at hSw); go_simp; try with_reducible rfl)
              try simp only [Act.put, List.getElem_toArray, List.getElem_cons_succ, List.getElem_cons_zero, List.setIfInBounds_toArray, List.set_cons_zero, List.set_cons_succ]
              refine wpAnyX_free (i := 2) (v := ?_) rfl (by kernel_rfl) (by kernel_rfl) (by kernel_rfl) (by kernel_rfl) (fun _ _ _ h => h) (Or.inl ⟨by kernel_rfl, ?_⟩) (.inr hHeld) ?_
              rotate_left
              · (intro w _; go_simp; try with_reducible rfl)
              try simp only [Act.put, List.getElem_toArray, List.getElem_cons_succ, List.getElem_cons_zero, List.setIfInBounds_toArray, List.set_cons_zero, List.set_cons_succ]
              refine wpAnyX_take (i := 3) (v := ?_) rfl (by kernel_rfl) (by kernel_rfl) (by kernel_rfl) (by kernel_rfl) (by kernel_rfl) (fun _ _ _ h => h) (Or.inl ⟨by kernel_rfl, ?_⟩) hHeld ?_
              rotate_left
              · (intro w hSw; (try dsimp only at hSw); go_simp; try with_reducible rfl)
              try simp only [Act.put, List.getElem_toArray, List.getElem_cons_succ, List.getElem_cons_zero, List.setIfInBounds_toArray, List.set_cons_zero, List.set_cons_succ]
              refine wpAnyX_free (i := 4) (v := ?_) rfl (by kernel_rfl) (by kernel_rfl) (by kernel_rfl) (by kernel_rfl) (fun _ _ _ h => h) (Or.inl ⟨by kernel_rfl, ?_⟩) (.inr hHeld) ?_
              rotate_left
              · (intro w _; go_simp; try with_reducible rfl)
              try simp only [Act.put, List.getElem_toArray, List.getElem_cons_succ, List.getElem_cons_zero, List.setIfInBounds_toArray, List.set_cons_zero, List.set_cons_succ]
              refine wpAnyX_free (i := 5) (v := ?_) rfl (by kernel_rfl) (by kernel_rfl) (by kernel_rfl) (by kernel_rfl) (fun _ _ _ h => h) (Or.inl ⟨by kernel_rfl, ?_⟩) (.inr hHeld) ?_
              rotate_left
              · (intro w _; go_simp; try with_reducible rfl)
              try simp only [Act.put, List.getElem_toArray, List.getElem_cons_succ, List.getElem_cons_zero, List.setIfInBounds_toArray, List.set_cons_zero, List.set_cons_succ]
              refine wpAnyX_take (i := 6) (v := ?_) rfl (by kernel_rfl) (by kernel_rfl) (by kernel_rfl) (by kernel_rfl) (by kernel_rfl) (fun _ _ _ h => h) (Or.inl ⟨by kernel_rfl, ?_⟩) hHeld ?_
              rotate_left
              · (intro w hSw; (try dsimp only at hSw); go_simp; try with_reducible rfl)
              try simp only [Act.put, List.getElem_toArray, List.getElem_cons_succ, List.getElem_cons_zero, List.setIfInBounds_toArray, List.set_cons_zero, List.set_cons_succ]
              refine wpAnyX_ready (rs := [7]) (by kernel_rfl) (by simp) ?_
              refine (AllReadyX.cons rfl (fun K hK => ?_) AllReadyX.nil)
              try rw [if_pos (by kernel_rfl)]
              go_simp
              obtain ⟨u1, hu1⟩ : ∃ x, Z0.alloc (.cells #[.string (bstr X)] 9) = x := ⟨_, rfl⟩
              obtain ⟨gB, hgB⟩ : ∃ b, Z0.heap.size = b := ⟨_, rfl⟩
              have nb : Blk u1 gB 9 #[.string (bstr X)] := by rw [← hu1, ← hgB]; exact Blk.new _ _ _
              have kB : Below Z0.heap.size Z0 u1 := by rw [← hu1]; exact (Below.refl _ _).alloc (Nat.le_refl _) _
              have st := st.below kB
              have b0 := b0.below kB b0.lt
              have r0 := r0.below kB r0.lt
              rw [hu1, hgB]
              clear hu1 hgB kB
              try dsimp only
              refine hK.out _ _ (by have q0 := st.b.cell 1; have q1 := b0.cell 0; have q2 := b0.cell 1; have q3 := b0.cell 2; simp at q0 q1 q2 q3; exact ⟨q0, q1, q2, q3, ((st.bel).cell (acell_lt c1)).trans c1⟩) (fun hHeld => ?_)
              clear hK K
              try simp only [Act.put, List.getElem_toArray, List.getElem_cons_succ, List.getElem_cons_zero, List.setIfInBounds_toArray, List.set_cons_zero, List.set_cons_succ]
              refine wpAnyX_ready (rs := [8]) (by kernel_rfl) (by simp) ?_
              refine (AllReadyX.cons rfl (fun K hK => ?_) AllReadyX.nil)
              refine step_append_lies _ (by rfl) _ _ 22 (by rfl) wB.heap.size 9 i0 (.string ⟨#[]⟩) 1 16 Try.underlying22 hi0 hz0 hz1 hz2 rfl (by decide) (.slice A1 m cA) m _ rfl st.o1 ⟨gB, 0, none⟩ 1 1 [.string (bstr X)] rfl rfl (World.news_of_block nb) (fun u hu => by simp at hu; subst hu; rfl) (by decide) F1.out F2.out st.bel.size _ rfl ?_
              intro gn1 cap1 u3 hown hgr hat _
              obtain ⟨bn, oth, belN, stn, othN⟩ := st.app1 (by decide) hown hgr hat
              clear hown hgr hat nb
              have b0N := othN _ _ _ b0 (by decide) nb0b1
              have b0 := oth _ _ _ b0 (by decide) nb0b1
              have r0N := othN _ _ _ r0 (by decide) nr0b1
              have r0 := oth _ _ _ r0 (by decide) nr0b1
              clear oth othN
              try dsimp only
              refine hK.out _ _ (by have q0 := bn.cell 1; have q1 := b0.cell 0; have q2 := b0.cell 1; have q3 := b0.cell 2; simp at q0 q1 q2 q3; exact ⟨q0, q1, q2, q3, ((belN).cell (acell_lt c1)).trans c1⟩) (fun hHeld => ?_)
              clear hK K
              try simp only [Act.put, List.getElem_toArray, List.getElem_cons_succ, List.getElem_cons_zero, List.setIfInBounds_toArray, List.set_cons_zero, List.set_cons_succ]
              refine wpAnyX_free (i := 9) (v := ?_) rfl (by kernel_rfl) (by kernel_rfl) (by kernel_rfl) (by kernel_rfl) (fun _ _ _ h => h) (Or.inl ⟨by kernel_rfl, ?_⟩) (.inr hHeld) ?_
              rotate_left
              · (intro w _; go_simp; try with_reducible rfl)
              try simp only [Act.put, List.getElem_toArray, List.getElem_cons_succ, List.getElem_cons_zero, List.setIfInBounds_toArray, List.set_cons_zero, List.set_cons_succ]
              have zz := bn.frozen 1
              have zc := bn.cell 1
              simp at zc
              refine wpAnyX_ready (rs := [10]) (by kernel_rfl) (by simp) ?_
              refine (AllReadyX.late rfl (by kernel_rfl) (fun K hK => ?_) AllReadyX.nil)
              try rw [if_pos (by kernel_rfl)]
              go_simp
              try dsimp only
              refine hK.out _ _ ?_
              clear hK K
              try simp only [Act.put, List.getElem_toArray, List.getElem_cons_succ, List.getElem_cons_zero, List.setIfInBounds_toArray, List.set_cons_zero, List.set_cons_succ]
              refine wpAnyX_done (by kernel_rfl) ?_ _
              refine NoPanic.normal ?_
              obtain ⟨u4, hu4⟩ : ∃ x, u3.setCell ⟨ib1, 1, none⟩ (.slice (some ⟨gn1, 0, none⟩) (m + 1) cap1) = x := ⟨_, rfl⟩
              rw [hu4] at stn b0N r0N ⊢
              clear hu4 bn st zz zc belN
              have st := stn
              have b0 := b0N
              have r0 := r0N
              clear stn b0N r0N
              have o0 := st.b.cell 0
              have o1 := st.b.cell 1
              have o2 := st.b.cell 2
              simp at o0 o1 o2
              have b0c0 := b0.cell 0
              have b0c1 := b0.cell 1
              have b0c2 := b0.cell 2
              simp at b0c0 b0c1 b0c2
              have b0lt := b0.lt
              have r0c0 := r0.cell 0
              have r0c1 := r0.cell 1
              have r0c2 := r0.cell 2
              simp at r0c0 r0c1 r0c2
              have r0lt := r0.lt
              go_wp2_with fail
              clear b0c0 b0c1 b0c2 b0lt r0c0 r0c1 r0c2 r0lt
              clear o0 o1 o2
              have st := st.drew
              have b0 := b0.drew
              have r0 := r0.drew
              refine wp_region_noPanic ?_
              refine wp_region_x (S := (fun w' => w'.cell? ⟨ib1, 2, none⟩ = some (.slice C1 m d1) ∧ w'.cell? ⟨ib0, 0, none⟩ = some (.bool leaf) ∧ w'.cell? ⟨ib0, 1, none⟩ = some (.slice (some ad) q cM) ∧ w'.cell? ⟨ib0, 2, none⟩ = some (.slice (some bd) q dM) ∧ w'.cell? (bd.add k) = some (.string (bstr Y)))) 10 (by kernel_rfl) ?hS0 (fun hHeld => ?_)
              case hS0 => (have q0 := st.b.cell 2; have q1 := b0.cell 0; have q2 := b0.cell 1; have q3 := b0.cell 2; simp at q0 q1 q2 q3; exact ⟨q0, q1, q2, q3, ((st.bel).cell (acell_lt c2)).trans c2⟩)
              generalize hZ : u4.drew = Z0 at *
              clear hZ
              refine wpAnyX_free (i := 0) (v := ?_) rfl (by kernel_rfl) (by kernel_rfl) (by kernel_rfl) (by kernel_rfl) (fun _ _ _ h => h) (Or.inl ⟨by kernel_rfl, ?_⟩) (.inr hHeld) ?_
              rotate_left
              · (intro w _; go_simp; try with_reducible rfl)
              try simp only [Act.put, List.getElem_toArray, List.getElem_cons_succ, List.getElem_cons_zero, List.setIfInBounds_toArray, List.set_cons_zero, List.set_cons_succ]
              refine wpAnyX_take (i := 1) (v := ?_) rfl (by kernel_rfl) (by kernel_rfl) (by kernel_rfl) (by kernel_rfl) (by kernel_rfl) (fun _ _ _ h => h) (Or.inl ⟨by kernel_rfl, ?_⟩) hHeld ?_
              rotate_left
              · (intro w hSw; (try dsimp only at hSw); go_simp; try with_reducible rfl)
              try simp only [Act.put, List.getElem_toArray, List.getElem_cons_succ, List.getElem_cons_zero, List.setIfInBounds_toArray, List.set_cons_zero, List.set_cons_succ]
              refine wpAnyX_free (i := 2) (v := ?_) rfl (by kernel_rfl) (by kernel_rfl) (by kernel_rfl) (by kernel_rfl) (fun _ _ _ h => h) (Or.inl ⟨by kernel_rfl, ?_⟩) (.inr hHeld) ?_
              rotate_left
              · (intro w _; go_simp; try with_reducible rfl)
              try simp only [Act.put, List.getElem_toArray, List.getElem_cons_succ, List.getElem_cons_zero, List.setIfInBounds_toArray, List.set_cons_zero, List.set_cons_succ]
              refine wpAnyX_take (i := 3) (v := ?_) rfl (by kernel_rfl) (by kernel_rfl) (by kernel_rfl) (by kernel_rfl) (by kernel_rfl) (fun _ _ _ h => h) (Or.inl ⟨by kernel_rfl, ?_⟩) hHeld ?_
              rotate_left
              · (intro w hSw; (try dsimp only at hSw); go_simp; try with_reducible rfl)
              try simp only [Act.put, List.getElem_toArray, List.getElem_cons_succ, List.getElem_cons_zero, List.setIfInBounds_toArray, List.set_cons_zero, List.set_cons_succ]
              refine wpAnyX_free (i := 4) (v := ?_) rfl (by kernel_rfl) (by kernel_rfl) (by kernel_rfl) (by kernel_rfl) (fun _ _ _ h => h) (Or.inl ⟨by kernel_rfl, ?_⟩) (.inr hHeld) ?_
              rotate_left
              · (intro w _; go_simp; try with_reducible rfl)
              try simp only [Act.put, List.getElem_toArray, List.getElem_cons_succ, List.getElem_cons_zero, List.setIfInBounds_toArray, List.set_cons_zero, List.set_cons_succ]
              refine wpAnyX_free (i := 5) (v := ?_) rfl (by kernel_rfl) (by kernel_rfl) (by kernel_rfl) (by kernel_rfl) (fun _ _ _ h => h) (Or.inl ⟨by kernel_rfl, ?_⟩) (.inr hHeld) ?_
              rotate_left
              · (intro w _; go_simp; try with_reducible rfl)
              try simp only [Act.put, List.getElem_toArray, List.getElem_cons_succ, List.getElem_cons_zero, List.setIfInBounds_toArray, List.set_cons_zero, List.set_cons_succ]
              refine wpAnyX_take (i := 6) (v := ?_) rfl (by kernel_rfl) (by kernel_rfl) (by kernel_rfl) (by kernel_rfl) (by kernel_rfl) (fun _ _ _ h => h) (Or.inl ⟨by kernel_rfl, ?_⟩) hHeld ?_
              rotate_left
              · (intro w hSw; (try dsimp only at hSw); go_simp; try with_reducible rfl)
              try simp only [Act.put, List.getElem_toArray, List.getElem_cons_succ, List.getElem_cons_zero, List.setIfInBounds_toArray, List.set_cons_zero, List.set_cons_succ]
              refine wpAnyX_ready (rs := [7]) (by kernel_rfl) (by simp) ?_
              refine (AllReadyX.cons rfl (fun K hK => ?_) AllReadyX.nil)
              try rw [if_pos (by kernel_rfl)]
              go_simp
              obtain ⟨u1, hu1⟩ : ∃ x, Z0.alloc (.cells #[.string (bstr Y)] 9) = x := ⟨_, rfl⟩
              obtain ⟨gB, hgB⟩ : ∃ b, Z0.heap.size = b := ⟨_, rfl⟩
              have nb : Blk u1 gB 9 #[.string (bstr Y)] := by rw [← hu1, ← hgB]; exact Blk.new _ _ _
              have kB : Below Z0.heap.size Z0 u1 := by rw [← hu1]; exact (Below.refl _ _).alloc (Nat.le_refl _) _
              have st := st.below kB
              have b0 := b0.below kB b0.lt
              have r0 := r0.below kB r0.lt
              rw [hu1, hgB]
              clear hu1 hgB kB
              try dsimp only
              refine hK.out _ _ (by have q0 := st.b.cell 2; have q1 := b0.cell 0; have q2 := b0.cell 1; have q3 := b0.cell 2; simp at q0 q1 q2 q3; exact ⟨q0, q1, q2, q3, ((st.bel).cell (acell_lt c2)).trans c2⟩) (fun hHeld => ?_)
              clear hK K
              try simp only [Act.put, List.getElem_toArray, List.getElem_cons_succ, List.getElem_cons_zero, List.setIfInBounds_toArray, List.set_cons_zero, List.set_cons_succ]
              refine wpAnyX_ready (rs := [8]) (by kernel_rfl) (by simp) ?_
              refine (AllReadyX.cons rfl (fun K hK => ?_) AllReadyX.nil)
              refine step_append_lies _ (by rfl) _ _ 22 (by rfl) wB.heap.size 9 i0 (.string ⟨#[]⟩) 1 16 Try.underlying22 hi0 hz0 hz1 hz2 rfl (by decide) (.slice C1 m d1) m _ rfl st.o2 ⟨gB, 0, none⟩ 1 1 [.string (bstr Y)] rfl rfl (World.news_of_block nb) (fun u hu => by simp at hu; subst hu; rfl) (by decide) F1.out F2.out st.bel.size _ rfl ?_
              intro gn2 cap2 u3 hown hgr hat _
              obtain ⟨bn, oth, belN, stn, othN⟩ := st.app2 (by decide) hown hgr hat
              clear hown hgr hat nb
              have b0N := othN _ _ _ b0 (by decide) nb0b1
              have b0 := oth _ _ _ b0 (by decide) nb0b1
              have r0N := othN _ _ _ r0 (by decide) nr0b1
              have r0 := oth _ _ _ r0 (by decide) nr0b1
              clear oth othN
              try dsimp only
              refine hK.out _ _ (by have q0 := bn.cell 2; have q1 := b0.cell 0; have q2 := b0.cell 1; have q3 := b0.cell 2; simp at q0 q1 q2 q3; exact ⟨q0, q1, q2, q3, ((belN).cell (acell_lt c2)).trans c2⟩) (fun hHeld => ?_)
              clear hK K
              try simp only [Act.put, List.getElem_toArray, List.getElem_cons_succ, List.getElem_cons_zero, List.setIfInBounds_toArray, List.set_cons_zero, List.set_cons_succ]
              refine wpAnyX_free (i := 9) (v := ?_) rfl (by kernel_rfl) (by kernel_rfl) (by kernel_rfl) (by kernel_rfl) (fun _ _ _ h => h) (Or.inl ⟨by kernel_rfl, ?_⟩) (.inr hHeld) ?_
              rotate_left
              · (intro w _; go_simp; try with_reducible rfl)
              try simp only [Act.put, List.getElem_toArray, List.getElem_cons_succ, List.getElem_cons_zero, List.setIfInBounds_toArray, List.set_cons_zero, List.set_cons_succ]
              have zz := bn.frozen 2
              have zc := bn.cell 2
              simp at zc
              refine wpAnyX_ready (rs := [10]) (by kernel_rfl) (by simp) ?_
              refine (AllReadyX.late rfl (by kernel_rfl) (fun K hK => ?_) AllReadyX.nil)
              try rw [if_pos (by kernel_rfl)]
              go_simp
              try dsimp only
              refine hK.out _ _ ?_
              clear hK K
              try simp only [Act.put, List.getElem_toArray, List.getElem_cons_succ, List.getElem_cons_zero, List.setIfInBounds_toArray, List.set_cons_zero, List.set_cons_succ]
              refine wpAnyX_done (by kernel_rfl) ?_ _
              refine NoPanic.normal ?_
              obtain ⟨u4, hu4⟩ : ∃ x, u3.setCell ⟨ib1, 2, none⟩ (.slice (some ⟨gn2, 0, none⟩) (m + 1) cap2) = x := ⟨_, rfl⟩
              rw [hu4] at stn b0N r0N ⊢
              clear hu4 bn st zz zc belN
              have st := stn
              have b0 := b0N
              have r0 := r0N
              clear stn b0N r0N
              go_wp2
              go_roundw
              case rel => exact ⟨k + 1, m + 1, _, _, by omega, by omega, by go_num, by rw [HN1.out], Lib.hid (by rw [HN1.out]; intro h; cases h), by rw [HN1.out, HN2.out]; exact st, b0, r0⟩
              case measure => simp [intOf]; omega

          · obtain rfl : k = q := by omega
            have q1 : decide ((k : Int) < k) = false := by simp
            have hR3 := HR.out
            rw [HQ1.out] at hR3
            unfold rwf at hR3
            rw [rwi_laid key val key mk mv mk k] at hR3
            obtain ⟨lb, hlb⟩ : ∃ b, (rwi key key mk mk k).laid = b := ⟨_, rfl⟩
            rw [hlb] at hR3 ⊢
            obtain ⟨L1, hL1⟩ : ∃ y, (rwi key key mk mk k).l = y := ⟨_, rfl⟩
            obtain ⟨L2, hL2⟩ : ∃ y, (rwi key val mk mv k).l = y := ⟨_, rfl⟩
            rw [hL1, hL2] at st hR3
            clear hlb hL1 hL2
            cases lb
            · have HR3 : Hid (R = ⟨leaf, L1 ++ [key], L2 ++ [val]⟩) := Lib.hid hR3
              clear hR3
              have F1 := Lib.hid (show m + 1 ≤ maxLen by unfold maxLen; omega)
              have F2 := Lib.hid (show (m + 1) * 16 ≤ 140737488355328 by omega)
              have o0 := st.b.cell 0
              have o1 := st.b.cell 1
              have o2 := st.b.cell 2
              simp at o0 o1 o2
              have b0c0 := b0.cell 0
              have b0c1 := b0.cell 1
              have b0c2 := b0.cell 2
              simp at b0c0 b0c1 b0c2
              have b0lt := b0.lt
              have r0c0 := r0.cell 0
              have r0c1 := r0.cell 1
              have r0c2 := r0.cell 2
              simp at r0c0 r0c1 r0c2
              have r0lt := r0.lt
              have kA : Below wr.heap.size wr (wr.alloc (.cells #[.string (bstr key)] 9)) := (Below.refl _ _).alloc (Nat.le_refl _) _
              have stA := st.below kA
              have b0A := b0.below kA b0.lt
              have r0A := r0.below kA r0.lt
              go_wp2_with (at_builtin; refine wpList_append_lies (P := Try.prog) _ rfl _ _ 22 rfl wB.heap.size 9 i0 (.string ⟨#[]⟩) 1 16 Try.underlying22 hi0 hz0 hz1 hz2 rfl (by decide) (.slice A1 m cA) m _ rfl stA.o1 ⟨wr.heap.size, 0, none⟩ 1 1 [.string (bstr key)] rfl rfl (World.news_of_block (Blk.new wr _ _)) (fun u hu => by simp at hu; subst hu; rfl) (by decide) F1.out F2.out stA.bel.size _ rfl ?_)
              clear b0c0 b0c1 b0c2 b0lt r0c0 r0c1 r0c2 r0lt
              clear o0 o1 o2
              intro gn1 cap1 u3 hown hgr hat _
              obtain ⟨bn, _, belN, stn, othN⟩ := stA.app1 (by decide) hown hgr (hat.imp_right (fun e => e.trans (by simp)))
              have b0 := othN _ _ _ b0A (by decide) nb0b1
              have r0 := othN _ _ _ r0A (by decide) nr0b1
              clear hown hgr hat othN kA stA belN b0A r0A
              have zz := bn.frozen 1
              have zc := bn.cell 1
              simp at zc
              obtain ⟨u4, hu4⟩ : ∃ x, u3.setCell ⟨ib1, 1, none⟩ (.slice (some ⟨gn1, 0, none⟩) (m + 1) cap1) = x := ⟨_, rfl⟩
              rw [hu4] at stn b0 r0
              have HU4 := Lib.hid hu4
              clear hu4
              go_upto_region 17 with fail
              rw [HU4.out]
              clear bn zz zc HU4
              have st := stn
              clear stn
              have o0 := st.b.cell 0
              have o1 := st.b.cell 1
              have o2 := st.b.cell 2
              simp at o0 o1 o2
              have b0c0 := b0.cell 0
              have b0c1 := b0.cell 1
              have b0c2 := b0.cell 2
              simp at b0c0 b0c1 b0c2
              have b0lt := b0.lt
              have r0c0 := r0.cell 0
              have r0c1 := r0.cell 1
              have r0c2 := r0.cell 2
              simp at r0c0 r0c1 r0c2
              have r0lt := r0.lt
              have kA : Below u4.heap.size u4 (u4.alloc (.cells #[.string (bstr val)] 9)) := (Below.refl _ _).alloc (Nat.le_refl _) _
              have stA := st.below kA
              have b0A := b0.below kA b0.lt
              have r0A := r0.below kA r0.lt
              go_wp2_with (at_builtin; refine wpList_append_lies (P := Try.prog) _ rfl _ _ 22 rfl wB.heap.size 9 i0 (.string ⟨#[]⟩) 1 16 Try.underlying22 hi0 hz0 hz1 hz2 rfl (by decide) (.slice C1 m d1) m _ rfl stA.o2 ⟨u4.heap.size, 0, none⟩ 1 1 [.string (bstr val)] rfl rfl (World.news_of_block (Blk.new u4 _ _)) (fun u hu => by simp at hu; subst hu; rfl) (by decide) F1.out F2.out stA.bel.size _ rfl ?_)
              clear b0c0 b0c1 b0c2 b0lt r0c0 r0c1 r0c2 r0lt
              clear o0 o1 o2
              intro gn2 cap2 u3 hown hgr hat _
              obtain ⟨bn, _, belN, stn, othN⟩ := stA.app2 (by decide) hown hgr (hat.imp_right (fun e => e.trans (by simp)))
              have b0 := othN _ _ _ b0A (by decide) nb0b1
              have r0 := othN _ _ _ r0A (by decide) nr0b1
              clear hown hgr hat othN kA stA belN b0A r0A
              have zz := bn.frozen 2
              have zc := bn.cell 2
              simp at zc
              obtain ⟨u4, hu4⟩ : ∃ x, u3.setCell ⟨ib1, 2, none⟩ (.slice (some ⟨gn2, 0, none⟩) (m + 1) cap2) = x := ⟨_, rfl⟩
              rw [hu4] at stn b0 r0
              have HU4 := Lib.hid hu4
              clear hu4
              go_upto_region 18 with fail
              rw [HU4.out]
              clear bn zz zc HU4
              have st := stn
              clear stn
              have b0c0 := b0.cell 0
              have b0c1 := b0.cell 1
              have b0c2 := b0.cell 2
              simp at b0c0 b0c1 b0c2
              have b0lt := b0.lt
              have r0c0 := r0.cell 0
              have r0c1 := r0.cell 1
              have r0c2 := r0.cell 2
              simp at r0c0 r0c1 r0c2
              have r0lt := r0.lt
              have o0 := st.b.cell 0
              have o1 := st.b.cell 1
              have o2 := st.b.cell 2
              simp at o0 o1 o2
              have rf0 := r0.frozen 0
              have rf1 := r0.frozen 1
              have rf2 := r0.frozen 2
              go_wp2
              have xx := r0.put3 (.bool leaf) (.slice (some ⟨gn1, 0, none⟩) (m + 1) cap1) (.slice (some ⟨gn2, 0, none⟩) (m + 1) cap2)
              have xx0 := xx.cell 0
              have xx1 := xx.cell 1
              have xx2 := xx.cell 2
              simp at xx0 xx1 xx2
              refine bodyPost_ret (v := .agg #[.bool leaf, .slice (some ⟨gn1, 0, none⟩) (m + 1) cap1, .slice (some ⟨gn2, 0, none⟩) (m + 1) cap2]) ?h1 rfl ?h2
              case h1 => simp [results, Try.results28, go_sem, xx0, xx1, xx2]
              case h2 => have e1 := st.ret2 r0 (by decide) (.bool leaf) (.slice (some ⟨gn1, 0, none⟩) (m + 1) cap1) (.slice (some ⟨gn2, 0, none⟩) (m + 1) cap2); rw [HR3.out]; exact ⟨_, rfl, e1, below_at (below_at (below_at (BEL.out.trans (st.bel.mono BEL.out.size)) OR0 _ _) OR0 _ _) OR0 _ _⟩

            · have HR3 : Hid (R = ⟨leaf, L1, L2⟩) := Lib.hid hR3
              clear hR3
              have b0c0 := b0.cell 0
              have b0c1 := b0.cell 1
              have b0c2 := b0.cell 2
              simp at b0c0 b0c1 b0c2
              have b0lt := b0.lt
              have r0c0 := r0.cell 0
              have r0c1 := r0.cell 1
              have r0c2 := r0.cell 2
              simp at r0c0 r0c1 r0c2
              have r0lt := r0.lt
              have o0 := st.b.cell 0
              have o1 := st.b.cell 1
              have o2 := st.b.cell 2
              simp at o0 o1 o2
              have rf0 := r0.frozen 0
              have rf1 := r0.frozen 1
              have rf2 := r0.frozen 2
              go_wp2
              have xx := r0.put3 (.bool leaf) (.slice A1 m cA) (.slice C1 m d1)
              have xx0 := xx.cell 0
              have xx1 := xx.cell 1
              have xx2 := xx.cell 2
              simp at xx0 xx1 xx2
              refine bodyPost_ret (v := .agg #[.bool leaf, .slice A1 m cA, .slice C1 m d1]) ?h1 rfl ?h2
              case h1 => simp [results, Try.results28, go_sem, xx0, xx1, xx2]
              case h2 => have e1 := st.ret2 r0 (by decide) (.bool leaf) (.slice A1 m cA) (.slice C1 m d1); rw [HR3.out]; exact ⟨_, rfl, e1, below_at (below_at (below_at (BEL.out.trans (st.bel.mono BEL.out.size)) OR0 _ _) OR0 _ _) OR0 _ _⟩
end Go.Proofs.Ytiodeeliidhbgaa
