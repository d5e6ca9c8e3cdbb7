/- Find and Encode of the reference 09: contracts. -/
import Derived.Test.YtiodeeliidhbgaaNdG
import Derived.Test.YtiodeeliidhbgaaNs
import Derived.Test.YtiodeeliidhbgaaFr
namespace Go.Proofs.Ytiodeeliidhbgaa
open Go Go.RowKit
set_option linter.unusedSimpArgs false
set_option linter.unnecessarySimpa false
set_option linter.unusedVariables false

theorem ent_to {s q : List UInt8} {wd : Int} (h : textL s wd = q) (w : World) (hs : s.length ≤ 140737488355328) :
    Calls Try.prog 39 #[.string (bstr s), .int .i64 wd] w fun e w' => e = .returned (.string (bstr q)) ∧ Below w.heap.size w w' := h ▸ rftext_any s wd w hs
theorem rput_to {n wd : Int} {q : List UInt8} (h : putL n wd = q) (w : World) :
    Calls Try.prog 38 #[.int .i64 n, .int .i64 wd] w fun e w' => e = .returned (.string (bstr q)) ∧ Below w.heap.size w w' := h ▸ rput_any n wd w

set_option maxRecDepth 100000 in
set_option maxHeartbeats 2000000 in
theorem rfind_any (v : Value) (n : Nd) (key : List UInt8) (w : World) (h : NdV w v n) (hk : n.keys.length ≤ 1000000) (hv : n.vals.length ≤ 1000000) :
    Calls Try.prog 16 #[v, .string (bstr key)] w fun e w' => e = .returned (.tuple #[.int .i64 ((findN n key).1 : Nat), .bool (findN n key).2]) ∧ Below w.heap.size w w' := by
  rw [← rfind_eq]
  obtain ⟨vk, vv, rfl, h1, h2⟩ := h
  obtain ⟨A, c, rfl⟩ := h1.form
  obtain ⟨C, d, rfl⟩ := h2.form
  obtain ⟨leaf, ks, vs⟩ := n
  simp only at h1 h2 hk hv ⊢
  have n0 : NdV w (.agg #[.bool leaf, .slice A ks.length c, .slice C vs.length d]) ⟨leaf, ks, vs⟩ := ⟨_, _, rfl, h1, h2⟩
  have bel : Below w.heap.size w w := Below.refl _ _
  clear h1 h2
  cases hm : mayB ⟨leaf, ks, vs⟩
  · have HF : Hid (rfindN ⟨leaf, ks, vs⟩ key = (0, false)) := Lib.hid (by unfold rfindN; rw [hm]; rfl)
    have HM := Lib.hid hm
    rw [HF.out]
    clear hm
    go_enter Try.func16, Try.ntmps16
    go_wp2_with fail
    obtain ⟨w1, hw1⟩ : ∃ x, w.alloc (.cells #[.bool leaf, .slice A ks.length c, .slice C vs.length d] 24) = x := ⟨_, rfl⟩
    obtain ⟨ib0, hib0⟩ : ∃ i, w.heap.size = i := ⟨_, rfl⟩
    have b0 : Blk w1 ib0 24 #[.bool leaf, .slice A ks.length c, .slice C vs.length d] := by rw [← hw1, ← hib0]; exact Blk.new _ _ _
    have k1 : Below w.heap.size w w1 := by rw [← hw1]; exact (Below.refl _ _).alloc (Nat.le_refl _) _
    have zb0 : w1.heap.size = ib0 + 1 := by rw [← hw1, ← hib0]; simp
    rw [hw1, hib0]
    have n0 := n0.below k1
    have bel := hthen bel k1
    clear k1
    clear hw1 hib0
    have b0c0 := b0.cell 0
    have b0c1 := b0.cell 1
    have b0c2 := b0.cell 2
    simp at b0c0 b0c1 b0c2
    have b0lt := b0.lt
    try (go_wp2_with fail)
    refine (rmay_to HM.out _ _ n0 hk hv).mono ?_
    rintro e w2 ⟨rfl, k2⟩
    clear b0c0 b0c1 b0c2 b0lt
    have b0 := b0.below k2 b0.lt
    have n0 := n0.below k2
    have bel := hthen bel k2
    clear k2
    have b0c0 := b0.cell 0
    have b0c1 := b0.cell 1
    have b0c2 := b0.cell 2
    simp at b0c0 b0c1 b0c2
    have b0lt := b0.lt
    go_wp2_with fail
    go_ret2
    exact ⟨rfl, bel⟩
  · have hrf : rfindN ⟨leaf, ks, vs⟩ key = (rAt ks key ks.length, decide (rAt ks key ks.length < ks.length) && decide (ks.getD (rAt ks key ks.length) [] = key)) := by unfold rfindN; rw [hm]; rfl
    obtain ⟨⟨R, S⟩, hRS⟩ : ∃ p, rfindN ⟨leaf, ks, vs⟩ key = p := ⟨_, rfl⟩
    rw [hRS]
    rw [hrf, Prod.mk.injEq] at hRS
    have HR := Lib.hid hRS.1
    have HS := Lib.hid hRS.2
    have HM := Lib.hid hm
    clear hm hrf hRS
    go_enter Try.func16, Try.ntmps16
    go_wp2_with fail
    obtain ⟨w1, hw1⟩ : ∃ x, w.alloc (.cells #[.bool leaf, .slice A ks.length c, .slice C vs.length d] 24) = x := ⟨_, rfl⟩
    obtain ⟨ib0, hib0⟩ : ∃ i, w.heap.size = i := ⟨_, rfl⟩
    have b0 : Blk w1 ib0 24 #[.bool leaf, .slice A ks.length c, .slice C vs.length d] := by rw [← hw1, ← hib0]; exact Blk.new _ _ _
    have k1 : Below w.heap.size w w1 := by rw [← hw1]; exact (Below.refl _ _).alloc (Nat.le_refl _) _
    have zb0 : w1.heap.size = ib0 + 1 := by rw [← hw1, ← hib0]; simp
    rw [hw1, hib0]
    have n0 := n0.below k1
    have bel := hthen bel k1
    clear k1
    clear hw1 hib0
    have b0c0 := b0.cell 0
    have b0c1 := b0.cell 1
    have b0c2 := b0.cell 2
    simp at b0c0 b0c1 b0c2
    have b0lt := b0.lt
    try (go_wp2_with fail)
    refine (rmay_to HM.out _ _ n0 hk hv).mono ?_
    rintro e w2 ⟨rfl, k2⟩
    clear b0c0 b0c1 b0c2 b0lt
    have b0 := b0.below k2 b0.lt
    have n0 := n0.below k2
    have bel := hthen bel k2
    clear k2
    have b0c0 := b0.cell 0
    have b0c1 := b0.cell 1
    have b0c2 := b0.cell 2
    simp at b0c0 b0c1 b0c2
    have b0lt := b0.lt
    go_wp2_with fail
    obtain ⟨_, _, eN, s1, s2⟩ := n0
    cases eN
    simp only at s1 s2
    have S1 := Lib.hid s1
    clear s1 s2
    go_loop [6, 7] (fun a i => ∃ k : Nat, k ≤ ks.length ∧ i = .int .i64 k ∧ a = .int .i64 (rAt ks key k : Nat)) (fun _ i => ks.length - (intOf i).toNat)
    case atStart => exact ⟨0, Nat.zero_le _, rfl, rfl⟩
    case round =>
      obtain ⟨k, hkn, rfl, rfl⟩ := hrel
      by_cases hlt : k < ks.length
      · have q1 : decide ((k : Int) < ks.length) = true := decide_eq_true (by omega)
        have T0 : (0 : Int) ≤ k := by omega
        have T1 : (k : Int) < ks.length := by omega
        obtain ⟨ad, rfl, c1⟩ := S1.out.cell (Below.refl _ _) (j := k) hlt
        have hnx : rAt ks key (k + 1) = if Op.bytesLess key (ks.getD k []) then rAt ks key k else k := rfl
        obtain ⟨X, hX⟩ : ∃ y, ks.getD k [] = y := ⟨_, rfl⟩
        rw [hX] at c1 hnx
        cases hb : Op.bytesLess X key
        · by_cases he : X = key
          · have q2 : (X == key) = true := by simp [he]
            have HNX : Hid (rAt ks key (k + 1) = k) := Lib.hid (by rw [hnx, he, bl_irr]; rfl)
            clear hnx hX he
            go_wp2
            go_round
            case rel => exact ⟨k + 1, by omega, by go_num, by rw [HNX.out]⟩
            case measure => simp [intOf]; omega
          · have q2 : (X == key) = false := beq_eq_false_iff_ne.2 he
            have HNX : Hid (rAt ks key (k + 1) = rAt ks key k) := Lib.hid (by
              have : Op.bytesLess key X = true := by
                cases hc : Op.bytesLess key X
                · exact absurd (bl_tri _ _ hb hc) he
                · rfl
              rw [hnx, this]; rfl)
            clear hnx hX he
            go_wp2
            go_round
            case rel => exact ⟨k + 1, by omega, by go_num, by rw [HNX.out]⟩
            case measure => simp [intOf]; omega
        · have HNX : Hid (rAt ks key (k + 1) = k) := Lib.hid (by rw [hnx, bl_asym hb]; rfl)
          clear hnx hX
          go_wp2
          go_round
          case rel => exact ⟨k + 1, by omega, by go_num, by rw [HNX.out]⟩
          case measure => simp [intOf]; omega
      · obtain rfl : k = ks.length := by omega
        have q1 : decide ((ks.length : Int) < ks.length) = false := by simp
        have hr := HR.out
        have hs := HS.out
        rw [hr] at hs ⊢
        by_cases hlr : R < ks.length
        · have q2 : decide ((R : Int) < ks.length) = true := decide_eq_true (by omega)
          have U0 : (0 : Int) ≤ R := by omega
          have U1 : (R : Int) < ks.length := by omega
          obtain ⟨ad, rfl, c1⟩ := S1.out.cell (Below.refl _ _) (j := R) hlr
          obtain ⟨X, hX⟩ : ∃ y, ks.getD R [] = y := ⟨_, rfl⟩
          rw [hX] at c1 hs
          rw [decide_eq_true hlr, Bool.true_and] at hs
          obtain rfl : S = (X == key) := by rw [← hs, Bool.eq_iff_iff]; simp
          clear hr hX hs HS HR
          go_wp2_with fail
          go_quiet (fail)
          go_wp2
          go_ret2
          exact ⟨rfl, bel.dN _⟩
        · have q2 : decide ((R : Int) < ks.length) = false := decide_eq_false (by omega)
          rw [decide_eq_false hlr, Bool.false_and] at hs
          obtain rfl : S = false := hs.symm
          clear hr hs HS HR
          go_wp2_with fail
          go_quiet (fail)
          go_wp2
          go_ret2
          exact ⟨rfl, bel.dN _⟩
end Go.Proofs.Ytiodeeliidhbgaa
