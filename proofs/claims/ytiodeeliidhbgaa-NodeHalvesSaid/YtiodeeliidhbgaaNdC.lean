/- Find of package node: contract. -/
import Derived.Test.YtiodeeliidhbgaaNdB
namespace Go.Proofs.Ytiodeeliidhbgaa
open Go Go.RowKit
set_option linter.unusedSimpArgs false
set_option linter.unnecessarySimpa false
set_option linter.unusedVariables false

set_option maxHeartbeats 1000000 in
theorem find_any (n : Nd) (v : Value) (key : List UInt8) (w : World) (h : NdV w v n) (hk : n.keys.length ≤ 1000000) (hv : n.vals.length ≤ 1000000) :
    Calls Try.prog 15 #[v, .string (bstr key)] w fun e w' => e = .returned (.tuple #[.int .i64 ((findN n key).1 : Nat), .bool (findN n key).2]) ∧ Below w.heap.size w w' := by
  have hnn := h
  obtain ⟨vk, vv, rfl, h1, h2⟩ := h
  obtain ⟨A, c, rfl⟩ := h1.form
  obtain ⟨C, d, rfl⟩ := h2.form
  obtain ⟨leaf, ks, vs⟩ := n
  simp only at h1 h2 hk hv hnn ⊢
  obtain ⟨w0, hw0⟩ : ∃ x, w.alloc (.cells #[.bool leaf, .slice A ks.length c, .slice C vs.length d] 30) = x := ⟨_, rfl⟩
  obtain ⟨G, hG⟩ : ∃ x, w.heap.size = x := ⟨_, rfl⟩
  have hb0 : Blk w0 G 30 #[.bool leaf, .slice A ks.length c, .slice C vs.length d] := by rw [← hw0, ← hG]; exact Blk.new _ _ _
  have k0 : Below w.heap.size w w0 := by rw [← hw0]; exact (Below.refl _ _).alloc (Nat.le_refl _) _
  have hN := hnn.below k0
  have hK := h1.below k0
  have y0 := hb0.cell 0
  have y1 := hb0.cell 1
  have y2 := hb0.cell 2
  simp at y0 y1 y2
  clear h1 h2 hnn
  cases hm : mayB ⟨leaf, ks, vs⟩
  · have HF : Hid (findN ⟨leaf, ks, vs⟩ key = (0, false)) := Lib.hid (by unfold findN; rw [hm]; rfl)
    have HM := Lib.hid hm
    clear hm
    rw [HF.out]
    go_enter Try.func15, Try.ntmps15
    go_wp2_with fail
    refine (may_to HM.out _ w0 hN hk hv).mono ?_
    rintro e w1 ⟨rfl, k1⟩
    go_wp2
    go_ret2
    exact ⟨rfl, hthen k0 k1⟩
  · have hparts := parts_lb (ord_of_may hm) key
    obtain ⟨p, hpp⟩ : ∃ p, lbN key ks = p := ⟨_, rfl⟩
    have hf : findN ⟨leaf, ks, vs⟩ key = if isAt ks key p then (p, true) else (p - 1, false) := by
      unfold findN thereN placeN
      rw [hm, if_pos rfl]
      simp only [hpp]
    rw [hpp] at hparts
    have hle := hparts.le
    have HP := Lib.hid hparts
    have HM := Lib.hid hm
    clear hm hparts hpp
    cases hat : isAt ks key p
    · have HF : Hid (findN ⟨leaf, ks, vs⟩ key = (p - 1, false)) := Lib.hid (by rw [hf, hat]; rfl)
      have HT := Lib.hid hat
      clear hf hat
      rw [HF.out]
      have e1 : (if (p : Int) - 1 < 0 then 0 else (p : Int) - 1) = (p - 1 : Nat) := by split <;> omega
      have e2 : (if 0 < (p : Int) - 1 then (p : Int) - 1 else 0) = (p - 1 : Nat) := by split <;> omega
      have E1 := Lib.hid e1
      have E2 := Lib.hid e2
      clear e1 e2
      go_enter Try.func15, Try.ntmps15
      go_wp2_with fail
      refine (may_to HM.out _ w0 hN hk hv).mono ?_
      rintro e w1 ⟨rfl, k1⟩
      have hb1 := hb0.below k1 hb0.lt
      have z1 := hb1.cell 1
      simp at z1
      clear y0 y1 y2
      go_wp2_with fail
      refine (bs_to HT.out _ HP.out hk w1 (hK.below k1)).mono ?_
      rintro e w1 ⟨rfl, rfl⟩
      go_wp2
      go_ret2
      refine ⟨?_, hthen k0 k1⟩
      rw [show ((p - 1 : Nat) : Int) = max ((p : Int) - 1) 0 by omega]
      rfl
    · have HF : Hid (findN ⟨leaf, ks, vs⟩ key = (p, true)) := Lib.hid (by rw [hf, hat]; rfl)
      have HT := Lib.hid hat
      clear hf hat
      rw [HF.out]
      go_enter Try.func15, Try.ntmps15
      go_wp2_with fail
      refine (may_to HM.out _ w0 hN hk hv).mono ?_
      rintro e w1 ⟨rfl, k1⟩
      have hb1 := hb0.below k1 hb0.lt
      have z1 := hb1.cell 1
      simp at z1
      clear y0 y1 y2
      go_wp2_with fail
      refine (bs_to HT.out _ HP.out hk w1 (hK.below k1)).mono ?_
      rintro e w1 ⟨rfl, rfl⟩
      go_wp2
      go_ret2
      exact ⟨rfl, hthen k0 k1⟩
theorem find_to {n : Nd} {key : List UInt8} {p : Nat} {b : Bool} (hf : findN n key = (p, b)) (v : Value) (w : World) (h : NdV w v n) (hk : n.keys.length ≤ 1000000) (hv : n.vals.length ≤ 1000000) :
    Calls Try.prog 15 #[v, .string (bstr key)] w fun e w' => e = .returned (.tuple #[.int .i64 (p : Nat), .bool b]) ∧ Below w.heap.size w w' := by
  have := find_any n v key w h hk hv
  rwa [hf] at this
end Go.Proofs.Ytiodeeliidhbgaa
