/- Nodes of a tree: contracts of entry, Size, Check of package node. -/
import Derived.Test.YtiodeeliidhbgaaNd
namespace Go.Proofs.Ytiodeeliidhbgaa
open Go Go.RowKit
set_option linter.unusedSimpArgs false
set_option linter.unnecessarySimpa false
set_option linter.unusedVariables false

theorem may_to {n : Nd} {b : Bool} (hm : mayB n = b) (v : Value) (w : World) (h : NdV w v n) (hk : n.keys.length ≤ 1000000) (hv : n.vals.length ≤ 1000000) :
    Calls Try.prog 40 #[v] w fun e w' => e = .returned (.bool b) ∧ Below w.heap.size w w' := hm ▸ may_any v n w h hk hv
theorem may_small {n : Nd} (h : mayB n = true) : n.keys.length ≤ 255 ∧ n.vals.length = n.keys.length := by
  obtain ⟨h1, h2, _⟩ := (mayB_iff n).1 h
  exact ⟨h2, h1.symm⟩
theorem may_at {n : Nd} (h : mayB n = true) {i : Nat} (hi : i < n.keys.length) : (n.keys.getD i []).length ≤ 300 ∧ (n.vals.getD i []).length ≤ 120 ∧ 1 ≤ (n.keys.getD i []).length := by
  have := ((mayB_iff n).1 h).2.2 i hi
  simp only [okB, plB, kyB, Bool.and_eq_true, decide_eq_true_eq] at this
  omega

set_option maxHeartbeats 1000000 in
theorem entry_any (v : Value) (n : Nd) (i : Nat) (w : World) (h : NdV w v n) (hm : mayB n = true) (hi : i < n.keys.length) :
    Calls Try.prog 42 #[v, .int .i64 i] w fun e w' => e = .returned (.int .i64 (entN n.keys n.vals i : Nat)) ∧ Below w.heap.size w w' := by
  obtain ⟨hs1, hs2⟩ := may_small hm
  obtain ⟨l1, l2, _⟩ := may_at hm hi
  obtain ⟨vk, vv, rfl, h1, h2⟩ := h
  obtain ⟨A, c, rfl⟩ := h1.form
  obtain ⟨C, d, rfl⟩ := h2.form
  obtain ⟨leaf, ks, vs⟩ := n
  simp only at h1 h2 hs1 hs2 hi l1 l2 ⊢
  obtain ⟨w0, hw0⟩ : ∃ x, w.alloc (.cells #[.bool leaf, .slice A ks.length c, .slice C vs.length d] 30) = x := ⟨_, rfl⟩
  obtain ⟨G, hG⟩ : ∃ x, w.heap.size = x := ⟨_, rfl⟩
  have hb0 : Blk w0 G 30 #[.bool leaf, .slice A ks.length c, .slice C vs.length d] := by rw [← hw0, ← hG]; exact Blk.new _ _ _
  have k0 : Below w.heap.size w w0 := by rw [← hw0]; exact (Below.refl _ _).alloc (Nat.le_refl _) _
  have kd : Below w.heap.size w w0.drew := k0.drew
  have y1 := hb0.cell 1
  have y2 := hb0.cell 2
  simp at y1 y2
  obtain ⟨ad, rfl, c1⟩ := h1.cell k0 hi
  obtain ⟨bd, rfl, c2⟩ := h2.cell k0 (show i < vs.length by omega)
  have T0 : (0 : Int) ≤ i := by omega
  have T1 : (i : Int) < ks.length := by omega
  have T2 : (i : Int) < vs.length := by omega
  have he : entN ks vs i = 3 + (ks.getD i []).length + (vs.getD i []).length := rfl
  obtain ⟨X, hX⟩ : ∃ y, ks.getD i [] = y := ⟨_, rfl⟩
  obtain ⟨Y, hY⟩ : ∃ y, vs.getD i [] = y := ⟨_, rfl⟩
  rw [hX] at c1 l1 he
  rw [hY] at c2 l2 he
  have hx : (bstr X).size = X.length := by simp [bstr, ByteArray.size]
  have hy : (bstr Y).size = Y.length := by simp [bstr, ByteArray.size]
  have e1 : IntKind.i64.wrap (3 + (X.length : Int)) = 3 + X.length := IntWalk.i64_in _ ⟨by omega, by omega⟩
  have e2 : IntKind.i64.wrap (3 + (X.length : Int) + Y.length) = 3 + X.length + Y.length := IntWalk.i64_in _ ⟨by omega, by omega⟩
  have HE := Lib.hid he
  clear hX hY h1 h2 he hb0 hs1 hs2
  go_enter Try.func42, Try.ntmps42
  go_wp2_with fail
  go_quiet (fail)
  go_wp2
  go_ret
  refine ⟨?_, ?_⟩
  · rw [HE.out]
    simp
  · exact k0.dN _

set_option maxHeartbeats 2000000 in
theorem size_any (v : Value) (n : Nd) (w : World) (h : NdV w v n) (hk : n.keys.length ≤ 1000000) (hv : n.vals.length ≤ 1000000) :
    Calls Try.prog 19 #[v] w fun e w' => e = .returned (.int .i64 (sizeN n : Nat)) ∧ Below w.heap.size w w' := by
  obtain ⟨vk, vv, rfl, h1, h2⟩ := h
  obtain ⟨A, c, rfl⟩ := h1.form
  obtain ⟨C, d, rfl⟩ := h2.form
  obtain ⟨leaf, ks, vs⟩ := n
  simp only at h1 h2 hk hv ⊢
  obtain ⟨w0, hw0⟩ : ∃ x, w.alloc (.cells #[.bool leaf, .slice A ks.length c, .slice C vs.length d] 30) = x := ⟨_, rfl⟩
  obtain ⟨G, hG⟩ : ∃ x, w.heap.size = x := ⟨_, rfl⟩
  have hb0 : Blk w0 G 30 #[.bool leaf, .slice A ks.length c, .slice C vs.length d] := by rw [← hw0, ← hG]; exact Blk.new _ _ _
  have k0 : Below w.heap.size w w0 := by rw [← hw0]; exact (Below.refl _ _).alloc (Nat.le_refl _) _
  have hN : NdV w0 (.agg #[.bool leaf, .slice A ks.length c, .slice C vs.length d]) ⟨leaf, ks, vs⟩ := ⟨_, _, rfl, h1.below k0, h2.below k0⟩
  have y0 := hb0.cell 0
  have y1 := hb0.cell 1
  have y2 := hb0.cell 2
  simp at y0 y1 y2
  clear h1 h2
  cases hm : mayB ⟨leaf, ks, vs⟩
  · have HZ : Hid (sizeN ⟨leaf, ks, vs⟩ = 0) := Lib.hid (by unfold sizeN; rw [hm]; rfl)
    have HM := Lib.hid hm
    clear hm
    go_enter Try.func19, Try.ntmps19
    go_wp2_with fail
    refine (may_to HM.out _ w0 hN (by omega) (by omega)).mono ?_
    rintro e w1 ⟨rfl, k1⟩
    go_wp2
    go_ret
    exact ⟨by rw [HZ.out]; rfl, hthen k0 k1⟩
  · obtain ⟨hs1, hs2⟩ := may_small hm
    simp only at hs1 hs2
    have HS : Hid (∀ k, k ≤ ks.length → sumN ks vs k ≤ 423 * k) := Lib.hid (fun k hk => (sum_le hm k hk).1)
    have HE : Hid (∀ k, k < ks.length → entN ks vs k ≤ 423) := Lib.hid (fun k hk => (ent_le hm hk).1)
    have HZ : Hid (sizeN ⟨leaf, ks, vs⟩ = 2 + sumN ks vs ks.length) := Lib.hid (by unfold sizeN; rw [hm]; rfl)
    have HM := Lib.hid hm
    clear hm hs2
    go_enter Try.func19, Try.ntmps19
    go_wp2_with fail
    refine (may_to HM.out _ w0 hN (by omega) (by omega)).mono ?_
    rintro e w1 ⟨rfl, k1⟩
    have hN1 := hN.below k1
    have hb1 := hb0.below k1 hb0.lt
    have hk1 := hthen k0 k1
    have y1 := hb1.cell 1
    simp at y1
    clear y0 y2 hN hb0 k1 k0 hw0
    go_wp2_with fail
    go_loopw [3, 11] (fun s i wr => ∃ k : Nat, k ≤ ks.length ∧ i = .int .i64 k ∧ s = .int .i64 (2 + (sumN ks vs k : Nat)) ∧ Below w1.heap.size w1 wr) (fun _ i _ => ks.length - (intOf i).toNat)
    case atStart => exact ⟨0, Nat.zero_le _, rfl, rfl, Below.refl _ _⟩
    case round =>
      obtain ⟨k, hkn, rfl, rfl, kr⟩ := hrel
      by_cases hlt : k < ks.length
      · have q1 : decide ((k : Int) < ks.length) = true := decide_eq_true (by omega)
        have T0 : (0 : Int) ≤ k := by omega
        have hbr := hb1.below kr hb1.lt
        have z0 := hbr.cell 0
        have z1 := hbr.cell 1
        have z2 := hbr.cell 2
        simp at z0 z1 z2
        have hNr := hN1.below kr
        have hsm := HS.out k (by omega)
        have hen := HE.out k hlt
        have hnx : sumN ks vs (k + 1) = sumN ks vs k + entN ks vs k := rfl
        obtain ⟨S, hS⟩ : ∃ y, sumN ks vs k = y := ⟨_, rfl⟩
        obtain ⟨E, hE⟩ : ∃ y, entN ks vs k = y := ⟨_, rfl⟩
        have ENT := entry_any _ ⟨leaf, ks, vs⟩ k wr hNr HM.out hlt
        rw [hS] at hsm hnx ⊢
        rw [hE] at hen hnx
        simp only [hE] at ENT
        have HNX := Lib.hid hnx
        have e1 : IntKind.i64.wrap (2 + (S : Int) + E) = 2 + S + E := IntWalk.i64_in _ ⟨by omega, by omega⟩
        clear hS hE hnx y1
        go_wp2_with fail
        refine ENT.mono ?_
        rintro e w2 ⟨rfl, k2⟩
        have k2' := hthen kr k2
        go_wp2
        go_round
        case rel => exact ⟨k + 1, by omega, by go_num, by rw [HNX.out]; go_num, k2'⟩
        case measure => simp [intOf]; omega
      · obtain rfl : k = ks.length := by omega
        have q1 : decide ((ks.length : Int) < ks.length) = false := by simp
        go_wp2
        go_ret
        exact ⟨by rw [HZ.out]; go_num, hthen hk1 kr⟩
end Go.Proofs.Ytiodeeliidhbgaa
