/- The laws of node: live. -/
import Derived.Test.YtiodeeliidhbgaaNdG
namespace Go.Proofs.Ytiodeeliidhbgaa
open Go Go.RowKit
set_option linter.unusedSimpArgs false
set_option linter.unnecessarySimpa false
set_option linter.unusedVariables false

theorem NdV.form2 {w : World} {v : Value} {n : Nd} {a b : Nat} (h : NdV w v n) (ha : n.keys.length = a) (hb : n.vals.length = b) : ∃ A c C d, v = .agg #[.bool n.leaf, .slice A a c, .slice C b d] := by
  subst ha; subst hb; exact h.form
def nl0 : Nd := ⟨true, [], []⟩
def nl1 : Nd := ⟨true, [[98]], [[50]]⟩
def nl2 : Nd := ⟨true, [[97], [98]], [[49], [50]]⟩
def nla : Nd := ⟨true, [[97]], [[49]]⟩
def nlb : Nd := ⟨true, [[98]], [[50]]⟩
theorem ll1 : withN nl0 [98] [50] = nl1 := by decide +kernel
theorem ll2 : withN nl1 [97] [49] = nl2 := by decide +kernel
theorem ll3 : nencL nl2 = [76, 2, 1, 0, 97, 1, 49, 1, 0, 98, 1, 50] := by decide +kernel
theorem ll4 : checkN nl2 = 0 := by decide +kernel
theorem ll5 : decD [76, 2, 1, 0, 97, 1, 49, 1, 0, 98, 1, 50] = (nl2, 0) := by decide +kernel
theorem ll6 : findN nl2 [98] = (1, true) := by decide +kernel
theorem ll7 : findN nl2 [97, 97] = (0, false) := by decide +kernel
theorem ll8 : firstN nl2 = nla := by decide +kernel
theorem ll9 : secondN nl2 = nlb := by decide +kernel
theorem ll10 : halvesN nl2 = true := by decide +kernel
theorem ll11 : halvesN nla = false := by decide +kernel
theorem ll12 : decD [76] = (emptyN, 2) := by decide +kernel
theorem ll13 : decD [88, 0] = (emptyN, 3) := by decide +kernel
theorem ll14 : sizeN nl2 = 12 := by decide +kernel
theorem ll15 : withoutN nl2 [97] = nlb := by decide +kernel
theorem ll16 : checkN ⟨false, [[]], [[]]⟩ = 1 := by decide +kernel
theorem sz_le : ∀ n : Nd, n.keys.length ≤ 5 → n.keys.length ≤ 1000000 := fun _ h => by omega
/-- a slice of one text, newly made -/
theorem ss_one {w : World} {g : Nat} {x : List UInt8} {c : Nat} (h : Blk w g 9 #[.string (bstr x)]) : SsAt w (.slice (some ⟨g, 0, none⟩) 1 c) [x] := by
  refine ⟨_, c, rfl, fun j hj => ⟨_, rfl, ?_⟩⟩
  obtain rfl : j = 0 := by simp at hj; omega
  exact h.cell 0

set_option maxRecDepth 100000 in
set_option maxHeartbeats 4000000 in
theorem live_ok (w : World) : Calls Try.prog 11 #[] w fun e w' => e = .returned (.bool true) ∧ Below w.heap.size w w' := by
  have n0 : NdV w (.agg #[.bool true, .slice none 0 0, .slice none 0 0]) nl0 := ⟨_, _, rfl, ss_nil w, ss_nil w⟩
  have bel : Below w.heap.size w w := Below.refl _ _
  have hfield : ∀ (w : World) (x0 x1 x2 : Value), (Instr.field 30 (.agg #[x0, x1, x2]) 1).run Try.prog w = .ok x1 w := fun _ _ _ _ => by kernel_rfl
  go_enter Try.func11, Try.ntmps11
  go_wp2_with fail
  refine (with_to ll1 _ w n0 (by decide) (by decide)).mono ?_
  rintro e w1 ⟨u1, rfl, n1, k1⟩
  have n0 := n0.below k1
  have bel := hthen bel k1
  clear k1
  obtain ⟨A1, c1, C1, d1, rfl⟩ := n1.form2 (a := 1) (b := 1) rfl rfl
  go_wp2_with fail
  refine (with_to ll2 _ w1 n1 (by decide) (by decide)).mono ?_
  rintro e w2 ⟨u2, rfl, n2, k2⟩
  have n1 := n1.below k2
  have bel := hthen bel k2
  clear k2
  obtain ⟨A2, c2, C2, d2, rfl⟩ := n2.form2 (a := 2) (b := 2) rfl rfl
  have n2 : NdV _ (.agg #[.bool true, .slice A2 2 c2, .slice C2 2 d2]) nl2 := n2
  rw [show nl2.leaf = true from rfl]
  go_wp2_with fail
  obtain ⟨w3, hw3⟩ : ∃ x, w2.alloc (.cells #[.bool true, .slice A2 2 c2, .slice C2 2 d2] 30) = x := ⟨_, rfl⟩
  obtain ⟨ib1, hib1⟩ : ∃ i, w2.heap.size = i := ⟨_, rfl⟩
  have b1 : Blk w3 ib1 30 #[.bool true, .slice A2 2 c2, .slice C2 2 d2] := by rw [← hw3, ← hib1]; exact Blk.new _ _ _
  have k3 : Below w2.heap.size w2 w3 := by rw [← hw3]; exact (Below.refl _ _).alloc (Nat.le_refl _) _
  have zb1 : w3.heap.size = ib1 + 1 := by rw [← hw3, ← hib1]; simp
  rw [hw3, hib1]
  have n2 := n2.below k3
  have bel := hthen bel k3
  clear k3 hw3 hib1
  have b1c0 := b1.cell 0
  have b1c1 := b1.cell 1
  have b1c2 := b1.cell 2
  simp at b1c0 b1c1 b1c2
  have b1lt := b1.lt
  try (go_wp2_with fail)
  refine (enc_to ll3 ll4 _ _ n2 (by decide) (by decide)).mono ?_
  rintro e w4 ⟨rfl, k4⟩
  clear b1c0 b1c1 b1c2 b1lt
  have b1 := b1.below k4 b1.lt
  have n2 := n2.below k4
  have bel := hthen bel k4
  clear k4
  have b1c0 := b1.cell 0
  have b1c1 := b1.cell 1
  have b1c2 := b1.cell 2
  simp at b1c0 b1c1 b1c2
  have b1lt := b1.lt
  go_wp2_with fail
  refine (dec_to ll5 (by decide) _).mono ?_
  rintro e w5 ⟨u3, rfl, n3, k5⟩
  clear b1c0 b1c1 b1c2 b1lt
  have b1 := b1.below k5 b1.lt
  have n2 := n2.below k5
  have bel := hthen bel k5
  clear k5
  obtain ⟨A3, c3, C3, d3, rfl⟩ := n3.form2 (a := 2) (b := 2) rfl rfl
  rw [show nl2.leaf = true from rfl] at n3 ⊢
  have b1c0 := b1.cell 0
  have b1c1 := b1.cell 1
  have b1c2 := b1.cell 2
  simp at b1c0 b1c1 b1c2
  have b1lt := b1.lt
  go_wp2_with fail
  clear b1c0 b1c1 b1c2 b1lt
  obtain ⟨w6, hw6⟩ : ∃ x, w5.alloc (.cells #[.bool true, .slice A3 2 c3, .slice C3 2 d3] 30) = x := ⟨_, rfl⟩
  obtain ⟨ib2, hib2⟩ : ∃ i, w5.heap.size = i := ⟨_, rfl⟩
  have b2 : Blk w6 ib2 30 #[.bool true, .slice A3 2 c3, .slice C3 2 d3] := by rw [← hw6, ← hib2]; exact Blk.new _ _ _
  have k6 : Below w5.heap.size w5 w6 := by rw [← hw6]; exact (Below.refl _ _).alloc (Nat.le_refl _) _
  have zb2 : w6.heap.size = ib2 + 1 := by rw [← hw6, ← hib2]; simp
  rw [hw6, hib2]
  have b1 := b1.below k6 b1.lt
  have n2 := n2.below k6
  have n3 := n3.below k6
  have bel := hthen bel k6
  clear k6 hw6 hib2
  have b1c0 := b1.cell 0
  have b1c1 := b1.cell 1
  have b1c2 := b1.cell 2
  simp at b1c0 b1c1 b1c2
  have b1lt := b1.lt
  have b2c0 := b2.cell 0
  have b2c1 := b2.cell 1
  have b2c2 := b2.cell 2
  simp at b2c0 b2c1 b2c2
  have b2lt := b2.lt
  try (go_wp2_with fail)
  refine (find_to ll6 _ _ n2 (by decide) (by decide)).mono ?_
  rintro e w7 ⟨rfl, k7⟩
  clear b1c0 b1c1 b1c2 b1lt b2c0 b2c1 b2c2 b2lt
  have b1 := b1.below k7 b1.lt
  have b2 := b2.below k7 b2.lt
  have n2 := n2.below k7
  have n3 := n3.below k7
  have bel := hthen bel k7
  clear k7
  have b1c0 := b1.cell 0
  have b1c1 := b1.cell 1
  have b1c2 := b1.cell 2
  simp at b1c0 b1c1 b1c2
  have b1lt := b1.lt
  have b2c0 := b2.cell 0
  have b2c1 := b2.cell 1
  have b2c2 := b2.cell 2
  simp at b2c0 b2c1 b2c2
  have b2lt := b2.lt
  go_wp2_with fail
  refine (find_to ll7 _ _ n2 (by decide) (by decide)).mono ?_
  rintro e w8 ⟨rfl, k8⟩
  clear b1c0 b1c1 b1c2 b1lt b2c0 b2c1 b2c2 b2lt
  have b1 := b1.below k8 b1.lt
  have b2 := b2.below k8 b2.lt
  have n2 := n2.below k8
  have n3 := n3.below k8
  have bel := hthen bel k8
  clear k8
  have b1c0 := b1.cell 0
  have b1c1 := b1.cell 1
  have b1c2 := b1.cell 2
  simp at b1c0 b1c1 b1c2
  have b1lt := b1.lt
  have b2c0 := b2.cell 0
  have b2c1 := b2.cell 1
  have b2c2 := b2.cell 2
  simp at b2c0 b2c1 b2c2
  have b2lt := b2.lt
  go_wp2_with fail
  refine (split_to ll8 ll9 ll10 _ _ n2 (by decide) (by decide)).mono ?_
  rintro e w9 ⟨u4, u5, rfl, n4, n5, k9⟩
  clear b1c0 b1c1 b1c2 b1lt b2c0 b2c1 b2c2 b2lt
  have b1 := b1.below k9 b1.lt
  have b2 := b2.below k9 b2.lt
  have n2 := n2.below k9
  have n3 := n3.below k9
  have bel := hthen bel k9
  clear k9
  obtain ⟨A4, c4, C4, d4, rfl⟩ := n4.form2 (a := 1) (b := 1) rfl rfl
  obtain ⟨A5, c5, C5, d5, rfl⟩ := n5.form2 (a := 1) (b := 1) rfl rfl
  rw [show nla.leaf = true from rfl] at n4 ⊢
  rw [show nlb.leaf = true from rfl] at n5 ⊢
  have b1c0 := b1.cell 0
  have b1c1 := b1.cell 1
  have b1c2 := b1.cell 2
  simp at b1c0 b1c1 b1c2
  have b1lt := b1.lt
  have b2c0 := b2.cell 0
  have b2c1 := b2.cell 1
  have b2c2 := b2.cell 2
  simp at b2c0 b2c1 b2c2
  have b2lt := b2.lt
  go_wp2_with fail
  clear b1c0 b1c1 b1c2 b1lt b2c0 b2c1 b2c2 b2lt
  obtain ⟨w10, hw10⟩ : ∃ x, w9.alloc (.cells #[.bool true, .slice A4 1 c4, .slice C4 1 d4] 30) = x := ⟨_, rfl⟩
  obtain ⟨ib4, hib4⟩ : ∃ i, w9.heap.size = i := ⟨_, rfl⟩
  have b4 : Blk w10 ib4 30 #[.bool true, .slice A4 1 c4, .slice C4 1 d4] := by rw [← hw10, ← hib4]; exact Blk.new _ _ _
  have k10 : Below w9.heap.size w9 w10 := by rw [← hw10]; exact (Below.refl _ _).alloc (Nat.le_refl _) _
  have zb4 : w10.heap.size = ib4 + 1 := by rw [← hw10, ← hib4]; simp
  rw [hw10, hib4]
  have b1 := b1.below k10 b1.lt
  have b2 := b2.below k10 b2.lt
  have n2 := n2.below k10
  have n3 := n3.below k10
  have n4 := n4.below k10
  have n5 := n5.below k10
  have bel := hthen bel k10
  clear k10 hw10 hib4
  have b1c0 := b1.cell 0
  have b1c1 := b1.cell 1
  have b1c2 := b1.cell 2
  simp at b1c0 b1c1 b1c2
  have b1lt := b1.lt
  have b2c0 := b2.cell 0
  have b2c1 := b2.cell 1
  have b2c2 := b2.cell 2
  simp at b2c0 b2c1 b2c2
  have b2lt := b2.lt
  have b4c0 := b4.cell 0
  have b4c1 := b4.cell 1
  have b4c2 := b4.cell 2
  simp at b4c0 b4c1 b4c2
  have b4lt := b4.lt
  try (go_wp2_with fail)
  clear b1c0 b1c1 b1c2 b1lt b2c0 b2c1 b2c2 b2lt b4c0 b4c1 b4c2 b4lt
  obtain ⟨w11, hw11⟩ : ∃ x, w10.alloc (.cells #[.bool true, .slice A5 1 c5, .slice C5 1 d5] 30) = x := ⟨_, rfl⟩
  obtain ⟨ib5, hib5⟩ : ∃ i, w10.heap.size = i := ⟨_, rfl⟩
  have b5 : Blk w11 ib5 30 #[.bool true, .slice A5 1 c5, .slice C5 1 d5] := by rw [← hw11, ← hib5]; exact Blk.new _ _ _
  have k11 : Below w10.heap.size w10 w11 := by rw [← hw11]; exact (Below.refl _ _).alloc (Nat.le_refl _) _
  have zb5 : w11.heap.size = ib5 + 1 := by rw [← hw11, ← hib5]; simp
  rw [hw11, ← zb4, hib5]
  have b1 := b1.below k11 b1.lt
  have b2 := b2.below k11 b2.lt
  have b4 := b4.below k11 b4.lt
  have n2 := n2.below k11
  have n3 := n3.below k11
  have n4 := n4.below k11
  have n5 := n5.below k11
  have bel := hthen bel k11
  clear k11 hw11 hib5
  have b1c0 := b1.cell 0
  have b1c1 := b1.cell 1
  have b1c2 := b1.cell 2
  simp at b1c0 b1c1 b1c2
  have b1lt := b1.lt
  have b2c0 := b2.cell 0
  have b2c1 := b2.cell 1
  have b2c2 := b2.cell 2
  simp at b2c0 b2c1 b2c2
  have b2lt := b2.lt
  have b4c0 := b4.cell 0
  have b4c1 := b4.cell 1
  have b4c2 := b4.cell 2
  simp at b4c0 b4c1 b4c2
  have b4lt := b4.lt
  have b5c0 := b5.cell 0
  have b5c1 := b5.cell 1
  have b5c2 := b5.cell 2
  simp at b5c0 b5c1 b5c2
  have b5lt := b5.lt
  try (go_wp2_with fail)
  refine (split_no _ nla _ n4 (by decide) (by decide) ll11).mono ?_
  rintro e w12 ⟨rfl, k12⟩
  clear b1c0 b1c1 b1c2 b1lt b2c0 b2c1 b2c2 b2lt b4c0 b4c1 b4c2 b4lt b5c0 b5c1 b5c2 b5lt
  have b1 := b1.below k12 b1.lt
  have b2 := b2.below k12 b2.lt
  have b4 := b4.below k12 b4.lt
  have b5 := b5.below k12 b5.lt
  have n2 := n2.below k12
  have n3 := n3.below k12
  have n4 := n4.below k12
  have n5 := n5.below k12
  have bel := hthen bel k12
  clear k12
  have b1c0 := b1.cell 0
  have b1c1 := b1.cell 1
  have b1c2 := b1.cell 2
  simp at b1c0 b1c1 b1c2
  have b1lt := b1.lt
  have b2c0 := b2.cell 0
  have b2c1 := b2.cell 1
  have b2c2 := b2.cell 2
  simp at b2c0 b2c1 b2c2
  have b2lt := b2.lt
  have b4c0 := b4.cell 0
  have b4c1 := b4.cell 1
  have b4c2 := b4.cell 2
  simp at b4c0 b4c1 b4c2
  have b4lt := b4.lt
  have b5c0 := b5.cell 0
  have b5c1 := b5.cell 1
  have b5c2 := b5.cell 2
  simp at b5c0 b5c1 b5c2
  have b5lt := b5.lt
  go_wp2_with fail
  clear b1c0 b1c1 b1c2 b1lt b2c0 b2c1 b2c2 b2lt b4c0 b4c1 b4c2 b4lt b5c0 b5c1 b5c2 b5lt
  obtain ⟨w13, hw13⟩ : ∃ x, w12.alloc (.cells #[.bool false, .slice none 0 0, .slice none 0 0] 30) = x := ⟨_, rfl⟩
  obtain ⟨ib6, hib6⟩ : ∃ i, w12.heap.size = i := ⟨_, rfl⟩
  have b6 : Blk w13 ib6 30 #[.bool false, .slice none 0 0, .slice none 0 0] := by rw [← hw13, ← hib6]; exact Blk.new _ _ _
  have k13 : Below w12.heap.size w12 w13 := by rw [← hw13]; exact (Below.refl _ _).alloc (Nat.le_refl _) _
  have zb6 : w13.heap.size = ib6 + 1 := by rw [← hw13, ← hib6]; simp
  rw [hw13, hib6]
  have b1 := b1.below k13 b1.lt
  have b2 := b2.below k13 b2.lt
  have b4 := b4.below k13 b4.lt
  have b5 := b5.below k13 b5.lt
  have n2 := n2.below k13
  have n3 := n3.below k13
  have n4 := n4.below k13
  have n5 := n5.below k13
  have bel := hthen bel k13
  clear k13 hw13 hib6
  have b1c0 := b1.cell 0
  have b1c1 := b1.cell 1
  have b1c2 := b1.cell 2
  simp at b1c0 b1c1 b1c2
  have b1lt := b1.lt
  have b2c0 := b2.cell 0
  have b2c1 := b2.cell 1
  have b2c2 := b2.cell 2
  simp at b2c0 b2c1 b2c2
  have b2lt := b2.lt
  have b4c0 := b4.cell 0
  have b4c1 := b4.cell 1
  have b4c2 := b4.cell 2
  simp at b4c0 b4c1 b4c2
  have b4lt := b4.lt
  have b5c0 := b5.cell 0
  have b5c1 := b5.cell 1
  have b5c2 := b5.cell 2
  simp at b5c0 b5c1 b5c2
  have b5lt := b5.lt
  have b6c0 := b6.cell 0
  have b6c1 := b6.cell 1
  have b6c2 := b6.cell 2
  simp at b6c0 b6c1 b6c2
  have b6lt := b6.lt
  try (go_wp2_with fail)
  clear b1c0 b1c1 b1c2 b1lt b2c0 b2c1 b2c2 b2lt b4c0 b4c1 b4c2 b4lt b5c0 b5c1 b5c2 b5lt b6c0 b6c1 b6c2 b6lt
  obtain ⟨w14, hw14⟩ : ∃ x, w13.alloc (.cells #[.bool false, .slice none 0 0, .slice none 0 0] 30) = x := ⟨_, rfl⟩
  obtain ⟨ib7, hib7⟩ : ∃ i, w13.heap.size = i := ⟨_, rfl⟩
  have b7 : Blk w14 ib7 30 #[.bool false, .slice none 0 0, .slice none 0 0] := by rw [← hw14, ← hib7]; exact Blk.new _ _ _
  have k14 : Below w13.heap.size w13 w14 := by rw [← hw14]; exact (Below.refl _ _).alloc (Nat.le_refl _) _
  have zb7 : w14.heap.size = ib7 + 1 := by rw [← hw14, ← hib7]; simp
  rw [hw14, ← zb6, hib7]
  have b1 := b1.below k14 b1.lt
  have b2 := b2.below k14 b2.lt
  have b4 := b4.below k14 b4.lt
  have b5 := b5.below k14 b5.lt
  have b6 := b6.below k14 b6.lt
  have n2 := n2.below k14
  have n3 := n3.below k14
  have n4 := n4.below k14
  have n5 := n5.below k14
  have bel := hthen bel k14
  clear k14 hw14 hib7
  have b1c0 := b1.cell 0
  have b1c1 := b1.cell 1
  have b1c2 := b1.cell 2
  simp at b1c0 b1c1 b1c2
  have b1lt := b1.lt
  have b2c0 := b2.cell 0
  have b2c1 := b2.cell 1
  have b2c2 := b2.cell 2
  simp at b2c0 b2c1 b2c2
  have b2lt := b2.lt
  have b4c0 := b4.cell 0
  have b4c1 := b4.cell 1
  have b4c2 := b4.cell 2
  simp at b4c0 b4c1 b4c2
  have b4lt := b4.lt
  have b5c0 := b5.cell 0
  have b5c1 := b5.cell 1
  have b5c2 := b5.cell 2
  simp at b5c0 b5c1 b5c2
  have b5lt := b5.lt
  have b6c0 := b6.cell 0
  have b6c1 := b6.cell 1
  have b6c2 := b6.cell 2
  simp at b6c0 b6c1 b6c2
  have b6lt := b6.lt
  have b7c0 := b7.cell 0
  have b7c1 := b7.cell 1
  have b7c2 := b7.cell 2
  simp at b7c0 b7c1 b7c2
  have b7lt := b7.lt
  try (go_wp2_with fail)
  clear b6
  clear b7
  try (go_wp2_with fail)
  refine (dec_to ll12 (by decide) _).mono ?_
  rintro e w15 ⟨u8, rfl, n8, k15⟩
  clear b1c0 b1c1 b1c2 b1lt b2c0 b2c1 b2c2 b2lt b4c0 b4c1 b4c2 b4lt b5c0 b5c1 b5c2 b5lt b6c0 b6c1 b6c2 b6lt b7c0 b7c1 b7c2 b7lt
  have b1 := b1.below k15 b1.lt
  have b2 := b2.below k15 b2.lt
  have b4 := b4.below k15 b4.lt
  have b5 := b5.below k15 b5.lt
  have n2 := n2.below k15
  have n3 := n3.below k15
  have n4 := n4.below k15
  have n5 := n5.below k15
  have bel := hthen bel k15
  clear k15
  obtain ⟨A8, c8, C8, d8, rfl⟩ := n8.form2 (a := 0) (b := 0) rfl rfl
  rw [show emptyN.leaf = false from rfl]
  clear n8
  have b1c0 := b1.cell 0
  have b1c1 := b1.cell 1
  have b1c2 := b1.cell 2
  simp at b1c0 b1c1 b1c2
  have b1lt := b1.lt
  have b2c0 := b2.cell 0
  have b2c1 := b2.cell 1
  have b2c2 := b2.cell 2
  simp at b2c0 b2c1 b2c2
  have b2lt := b2.lt
  have b4c0 := b4.cell 0
  have b4c1 := b4.cell 1
  have b4c2 := b4.cell 2
  simp at b4c0 b4c1 b4c2
  have b4lt := b4.lt
  have b5c0 := b5.cell 0
  have b5c1 := b5.cell 1
  have b5c2 := b5.cell 2
  simp at b5c0 b5c1 b5c2
  have b5lt := b5.lt
  go_wp2_with fail
  clear b1c0 b1c1 b1c2 b1lt b2c0 b2c1 b2c2 b2lt b4c0 b4c1 b4c2 b4lt b5c0 b5c1 b5c2 b5lt
  obtain ⟨w16, hw16⟩ : ∃ x, w15.alloc (.cells #[.bool false, .slice A8 0 c8, .slice C8 0 d8] 30) = x := ⟨_, rfl⟩
  obtain ⟨ib8, hib8⟩ : ∃ i, w15.heap.size = i := ⟨_, rfl⟩
  have b8 : Blk w16 ib8 30 #[.bool false, .slice A8 0 c8, .slice C8 0 d8] := by rw [← hw16, ← hib8]; exact Blk.new _ _ _
  have k16 : Below w15.heap.size w15 w16 := by rw [← hw16]; exact (Below.refl _ _).alloc (Nat.le_refl _) _
  have zb8 : w16.heap.size = ib8 + 1 := by rw [← hw16, ← hib8]; simp
  rw [hw16, hib8]
  have b1 := b1.below k16 b1.lt
  have b2 := b2.below k16 b2.lt
  have b4 := b4.below k16 b4.lt
  have b5 := b5.below k16 b5.lt
  have n2 := n2.below k16
  have n3 := n3.below k16
  have n4 := n4.below k16
  have n5 := n5.below k16
  have bel := hthen bel k16
  clear k16 hw16 hib8
  have b1c0 := b1.cell 0
  have b1c1 := b1.cell 1
  have b1c2 := b1.cell 2
  simp at b1c0 b1c1 b1c2
  have b1lt := b1.lt
  have b2c0 := b2.cell 0
  have b2c1 := b2.cell 1
  have b2c2 := b2.cell 2
  simp at b2c0 b2c1 b2c2
  have b2lt := b2.lt
  have b4c0 := b4.cell 0
  have b4c1 := b4.cell 1
  have b4c2 := b4.cell 2
  simp at b4c0 b4c1 b4c2
  have b4lt := b4.lt
  have b5c0 := b5.cell 0
  have b5c1 := b5.cell 1
  have b5c2 := b5.cell 2
  simp at b5c0 b5c1 b5c2
  have b5lt := b5.lt
  have b8c0 := b8.cell 0
  have b8c1 := b8.cell 1
  have b8c2 := b8.cell 2
  simp at b8c0 b8c1 b8c2
  have b8lt := b8.lt
  try (go_wp2_with fail)
  clear b8
  try (go_wp2_with fail)
  refine (dec_to ll13 (by decide) _).mono ?_
  rintro e w17 ⟨u9, rfl, n9, k17⟩
  clear b1c0 b1c1 b1c2 b1lt b2c0 b2c1 b2c2 b2lt b4c0 b4c1 b4c2 b4lt b5c0 b5c1 b5c2 b5lt b8c0 b8c1 b8c2 b8lt
  have b1 := b1.below k17 b1.lt
  have b2 := b2.below k17 b2.lt
  have b4 := b4.below k17 b4.lt
  have b5 := b5.below k17 b5.lt
  have n2 := n2.below k17
  have n3 := n3.below k17
  have n4 := n4.below k17
  have n5 := n5.below k17
  have bel := hthen bel k17
  clear k17
  obtain ⟨A9, c9, C9, d9, rfl⟩ := n9.form2 (a := 0) (b := 0) rfl rfl
  rw [show emptyN.leaf = false from rfl]
  clear n9
  have b1c0 := b1.cell 0
  have b1c1 := b1.cell 1
  have b1c2 := b1.cell 2
  simp at b1c0 b1c1 b1c2
  have b1lt := b1.lt
  have b2c0 := b2.cell 0
  have b2c1 := b2.cell 1
  have b2c2 := b2.cell 2
  simp at b2c0 b2c1 b2c2
  have b2lt := b2.lt
  have b4c0 := b4.cell 0
  have b4c1 := b4.cell 1
  have b4c2 := b4.cell 2
  simp at b4c0 b4c1 b4c2
  have b4lt := b4.lt
  have b5c0 := b5.cell 0
  have b5c1 := b5.cell 1
  have b5c2 := b5.cell 2
  simp at b5c0 b5c1 b5c2
  have b5lt := b5.lt
  go_wp2_with fail
  clear b1c0 b1c1 b1c2 b1lt b2c0 b2c1 b2c2 b2lt b4c0 b4c1 b4c2 b4lt b5c0 b5c1 b5c2 b5lt
  obtain ⟨w18, hw18⟩ : ∃ x, w17.alloc (.cells #[.bool false, .slice A9 0 c9, .slice C9 0 d9] 30) = x := ⟨_, rfl⟩
  obtain ⟨ib9, hib9⟩ : ∃ i, w17.heap.size = i := ⟨_, rfl⟩
  have b9 : Blk w18 ib9 30 #[.bool false, .slice A9 0 c9, .slice C9 0 d9] := by rw [← hw18, ← hib9]; exact Blk.new _ _ _
  have k18 : Below w17.heap.size w17 w18 := by rw [← hw18]; exact (Below.refl _ _).alloc (Nat.le_refl _) _
  have zb9 : w18.heap.size = ib9 + 1 := by rw [← hw18, ← hib9]; simp
  rw [hw18, hib9]
  have b1 := b1.below k18 b1.lt
  have b2 := b2.below k18 b2.lt
  have b4 := b4.below k18 b4.lt
  have b5 := b5.below k18 b5.lt
  have n2 := n2.below k18
  have n3 := n3.below k18
  have n4 := n4.below k18
  have n5 := n5.below k18
  have bel := hthen bel k18
  clear k18 hw18 hib9
  have b1c0 := b1.cell 0
  have b1c1 := b1.cell 1
  have b1c2 := b1.cell 2
  simp at b1c0 b1c1 b1c2
  have b1lt := b1.lt
  have b2c0 := b2.cell 0
  have b2c1 := b2.cell 1
  have b2c2 := b2.cell 2
  simp at b2c0 b2c1 b2c2
  have b2lt := b2.lt
  have b4c0 := b4.cell 0
  have b4c1 := b4.cell 1
  have b4c2 := b4.cell 2
  simp at b4c0 b4c1 b4c2
  have b4lt := b4.lt
  have b5c0 := b5.cell 0
  have b5c1 := b5.cell 1
  have b5c2 := b5.cell 2
  simp at b5c0 b5c1 b5c2
  have b5lt := b5.lt
  have b9c0 := b9.cell 0
  have b9c1 := b9.cell 1
  have b9c2 := b9.cell 2
  simp at b9c0 b9c1 b9c2
  have b9lt := b9.lt
  try (go_wp2_with fail)
  clear b9
  try (go_wp2_with fail)
  clear b1c0 b1c1 b1c2 b1lt b2c0 b2c1 b2c2 b2lt b4c0 b4c1 b4c2 b4lt b5c0 b5c1 b5c2 b5lt b9c0 b9c1 b9c2 b9lt
  clear n4
  clear n5
  have n2 := n2.below (Below.refl _ _).drew
  have n3 := n3.below (Below.refl _ _).drew
  have bel := bel.drew
  have b1 := b1.drew
  have b2 := b2.drew
  have b4 := b4.drew
  have b5 := b5.drew
  refine wp_region_noPanic ?_
  refine wp_region_held_drew (S := (fun w' => w'.cell? ⟨ib1, 0, none⟩ = some (.bool true) ∧ w'.cell? ⟨ib1, 1, none⟩ = some (.slice A2 2 c2) ∧ w'.cell? ⟨ib1, 2, none⟩ = some (.slice C2 2 d2) ∧ w'.cell? ⟨ib2, 0, none⟩ = some (.bool true) ∧ w'.cell? ⟨ib2, 1, none⟩ = some (.slice A3 2 c3) ∧ w'.cell? ⟨ib2, 2, none⟩ = some (.slice C3 2 d3) ∧ w'.cell? ⟨ib4, 1, none⟩ = some (.slice A4 1 c4) ∧ w'.cell? ⟨ib5, 1, none⟩ = some (.slice A5 1 c5))) (by kernel_rfl) ?hS0 (fun hHeld => ?_)
  case hS0 => (have a0 := b1.cell 0; have a1 := b1.cell 1; have a2 := b1.cell 2; have a3 := b2.cell 0; have a4 := b2.cell 1; have a5 := b2.cell 2; have a6 := b4.cell 1; have a7 := b5.cell 1; simp at a0 a1 a2 a3 a4 a5 a6 a7; exact ⟨a0, a1, a2, a3, a4, a5, a6, a7⟩)
  refine wpAnyH_take (i := 0) (oi := ⟨some 63, _, _, _, _, _⟩) (v := ?_) rfl (by kernel_rfl) (by kernel_rfl) (by kernel_rfl) (fun _ _ _ h => h) (Or.inl ⟨by kernel_rfl, ?_⟩) hHeld ?_
  rotate_left
  · (intro w hSw; (try dsimp only at hSw); go_simp; try with_reducible rfl)
  try simp only [Act.put, List.getElem_toArray, List.getElem_cons_succ, List.getElem_cons_zero, List.setIfInBounds_toArray, List.set_cons_zero, List.set_cons_succ]
  refine wpAnyH_take (i := 1) (oi := ⟨some 64, _, _, _, _, _⟩) (v := ?_) rfl (by kernel_rfl) (by kernel_rfl) (by kernel_rfl) (fun _ _ _ h => h) (Or.inl ⟨by kernel_rfl, ?_⟩) hHeld ?_
  rotate_left
  · (intro w hSw; (try dsimp only at hSw); go_simp; try with_reducible rfl)
  try simp only [Act.put, List.getElem_toArray, List.getElem_cons_succ, List.getElem_cons_zero, List.setIfInBounds_toArray, List.set_cons_zero, List.set_cons_succ]
  refine wpAnyH_take (i := 2) (oi := ⟨some 65, _, _, _, _, _⟩) (v := ?_) rfl (by kernel_rfl) (by kernel_rfl) (by kernel_rfl) (fun _ _ _ h => h) (Or.inl ⟨by kernel_rfl, ?_⟩) hHeld ?_
  rotate_left
  · (intro w hSw; (try dsimp only at hSw); go_simp; try with_reducible rfl)
  try simp only [Act.put, List.getElem_toArray, List.getElem_cons_succ, List.getElem_cons_zero, List.setIfInBounds_toArray, List.set_cons_zero, List.set_cons_succ]
  refine wpAnyH_take (i := 3) (oi := ⟨some 66, _, _, _, _, _⟩) (v := ?_) rfl (by kernel_rfl) (by kernel_rfl) (by kernel_rfl) (fun _ _ _ h => h) (Or.inl ⟨by kernel_rfl, ?_⟩) hHeld ?_
  rotate_left
  · (intro w hSw; (try dsimp only at hSw); go_simp; try with_reducible rfl)
  try simp only [Act.put, List.getElem_toArray, List.getElem_cons_succ, List.getElem_cons_zero, List.setIfInBounds_toArray, List.set_cons_zero, List.set_cons_succ]
  refine wpAnyH_take (i := 4) (oi := ⟨some 67, _, _, _, _, _⟩) (v := ?_) rfl (by kernel_rfl) (by kernel_rfl) (by kernel_rfl) (fun _ _ _ h => h) (Or.inl ⟨by kernel_rfl, ?_⟩) hHeld ?_
  rotate_left
  · (intro w hSw; (try dsimp only at hSw); go_simp; try with_reducible rfl)
  try simp only [Act.put, List.getElem_toArray, List.getElem_cons_succ, List.getElem_cons_zero, List.setIfInBounds_toArray, List.set_cons_zero, List.set_cons_succ]
  refine wpAnyH_take (i := 5) (oi := ⟨some 68, _, _, _, _, _⟩) (v := ?_) rfl (by kernel_rfl) (by kernel_rfl) (by kernel_rfl) (fun _ _ _ h => h) (Or.inl ⟨by kernel_rfl, ?_⟩) hHeld ?_
  rotate_left
  · (intro w hSw; (try dsimp only at hSw); go_simp; try with_reducible rfl)
  try simp only [Act.put, List.getElem_toArray, List.getElem_cons_succ, List.getElem_cons_zero, List.setIfInBounds_toArray, List.set_cons_zero, List.set_cons_succ]
  refine wpAnyH_take (i := 6) (oi := ⟨some 69, _, _, _, _, _⟩) (v := ?_) rfl (by kernel_rfl) (by kernel_rfl) (by kernel_rfl) (fun _ _ _ h => h) (Or.inl ⟨by kernel_rfl, ?_⟩) hHeld ?_
  rotate_left
  · (intro w hSw; (try dsimp only at hSw); go_simp; try with_reducible rfl)
  try simp only [Act.put, List.getElem_toArray, List.getElem_cons_succ, List.getElem_cons_zero, List.setIfInBounds_toArray, List.set_cons_zero, List.set_cons_succ]
  refine wpAnyH_take (i := 7) (oi := ⟨some 70, _, _, _, _, _⟩) (v := ?_) rfl (by kernel_rfl) (by kernel_rfl) (by kernel_rfl) (fun _ _ _ h => h) (Or.inl ⟨by kernel_rfl, ?_⟩) hHeld ?_
  rotate_left
  · (intro w hSw; (try dsimp only at hSw); go_simp; try with_reducible rfl)
  try simp only [Act.put, List.getElem_toArray, List.getElem_cons_succ, List.getElem_cons_zero, List.setIfInBounds_toArray, List.set_cons_zero, List.set_cons_succ]
  refine wpAnyH_take (i := 9) (oi := ⟨some 72, _, _, _, _, _⟩) (v := ?_) rfl (by kernel_rfl) (by kernel_rfl) (by kernel_rfl) (fun _ _ _ h => h) (Or.inl ⟨by kernel_rfl, ?_⟩) hHeld ?_
  rotate_left
  · (intro w hSw; (try dsimp only at hSw); go_simp; try with_reducible rfl)
  try simp only [Act.put, List.getElem_toArray, List.getElem_cons_succ, List.getElem_cons_zero, List.setIfInBounds_toArray, List.set_cons_zero, List.set_cons_succ]
  refine wpAnyH_ready (rs := [8]) (by kernel_rfl) (by simp) ?_
  refine (AllReadyH.cons rfl (fun K hK => ?_) AllReadyH.nil)
  try rw [if_pos (by kernel_rfl)]
  go_simp
  go_at_call 24
  refine (told_any _ nl2 _ n2).mono ?_
  rintro e y1 ⟨rfl, kk⟩
  have n2 := n2.below kk
  have n3 := n3.below kk
  have bel := hthen bel kk
  have b1 := b1.below kk b1.lt
  have b2 := b2.below kk b2.lt
  have b4 := b4.below kk b4.lt
  have b5 := b5.below kk b5.lt
  clear kk
  try dsimp only
  refine hK.out _ _ (by have a0 := b1.cell 0; have a1 := b1.cell 1; have a2 := b1.cell 2; have a3 := b2.cell 0; have a4 := b2.cell 1; have a5 := b2.cell 2; have a6 := b4.cell 1; have a7 := b5.cell 1; simp at a0 a1 a2 a3 a4 a5 a6 a7; exact ⟨a0, a1, a2, a3, a4, a5, a6, a7⟩) (fun hHeld => ?_)
  clear hK K
  try simp only [Act.put, List.getElem_toArray, List.getElem_cons_succ, List.getElem_cons_zero, List.setIfInBounds_toArray, List.set_cons_zero, List.set_cons_succ]
  refine wpAnyH_ready (rs := [10]) (by kernel_rfl) (by simp) ?_
  refine (AllReadyH.cons rfl (fun K hK => ?_) AllReadyH.nil)
  try rw [if_pos (by kernel_rfl)]
  go_simp
  go_at_call 24
  refine (told_any _ nl2 _ n3).mono ?_
  rintro e y2 ⟨rfl, kk⟩
  have n2 := n2.below kk
  have n3 := n3.below kk
  have bel := hthen bel kk
  have b1 := b1.below kk b1.lt
  have b2 := b2.below kk b2.lt
  have b4 := b4.below kk b4.lt
  have b5 := b5.below kk b5.lt
  clear kk
  try dsimp only
  refine hK.out _ _ (by have a0 := b1.cell 0; have a1 := b1.cell 1; have a2 := b1.cell 2; have a3 := b2.cell 0; have a4 := b2.cell 1; have a5 := b2.cell 2; have a6 := b4.cell 1; have a7 := b5.cell 1; simp at a0 a1 a2 a3 a4 a5 a6 a7; exact ⟨a0, a1, a2, a3, a4, a5, a6, a7⟩) (fun hHeld => ?_)
  clear hK K
  try simp only [Act.put, List.getElem_toArray, List.getElem_cons_succ, List.getElem_cons_zero, List.setIfInBounds_toArray, List.set_cons_zero, List.set_cons_succ]
  refine wpAnyH_ready (rs := [11]) (by kernel_rfl) (by simp) ?_
  refine (AllReadyH.cons rfl (fun K hK => ?_) AllReadyH.nil)
  try rw [if_pos (by kernel_rfl)]
  go_simp
  go_at_call 23
  refine (nsame_to rfl _ _ _ n2 n3 (by decide) (by decide)).mono ?_
  rintro e y3 ⟨rfl, kk⟩
  have n2 := n2.below kk
  have n3 := n3.below kk
  have bel := hthen bel kk
  have b1 := b1.below kk b1.lt
  have b2 := b2.below kk b2.lt
  have b4 := b4.below kk b4.lt
  have b5 := b5.below kk b5.lt
  clear kk
  try dsimp only
  refine hK.out _ _ (by have a0 := b1.cell 0; have a1 := b1.cell 1; have a2 := b1.cell 2; have a3 := b2.cell 0; have a4 := b2.cell 1; have a5 := b2.cell 2; have a6 := b4.cell 1; have a7 := b5.cell 1; simp at a0 a1 a2 a3 a4 a5 a6 a7; exact ⟨a0, a1, a2, a3, a4, a5, a6, a7⟩) (fun hHeld => ?_)
  clear hK K
  try simp only [Act.put, List.getElem_toArray, List.getElem_cons_succ, List.getElem_cons_zero, List.setIfInBounds_toArray, List.set_cons_zero, List.set_cons_succ]
  refine wpAnyH_take (i := 12) (oi := ⟨some 75, _, _, _, _, _⟩) (v := ?_) rfl (by kernel_rfl) (by kernel_rfl) (by kernel_rfl) (fun _ _ _ h => h) (Or.inl ⟨by kernel_rfl, ?_⟩) hHeld ?_
  rotate_left
  · (intro w hSw; (try dsimp only at hSw); go_simp; try with_reducible rfl)
  try simp only [Act.put, List.getElem_toArray, List.getElem_cons_succ, List.getElem_cons_zero, List.setIfInBounds_toArray, List.set_cons_zero, List.set_cons_succ]
  refine wpAnyH_take (i := 13) (oi := ⟨some 76, _, _, _, _, _⟩) (v := ?_) rfl (by kernel_rfl) (by kernel_rfl) (by kernel_rfl) (fun _ _ _ h => h) (Or.inl ⟨by kernel_rfl, ?_⟩) hHeld ?_
  rotate_left
  · (intro w hSw; (try dsimp only at hSw); go_simp; try with_reducible rfl)
  try simp only [Act.put, List.getElem_toArray, List.getElem_cons_succ, List.getElem_cons_zero, List.setIfInBounds_toArray, List.set_cons_zero, List.set_cons_succ]
  refine wpAnyH_take (i := 14) (oi := ⟨some 77, _, _, _, _, _⟩) (v := ?_) rfl (by kernel_rfl) (by kernel_rfl) (by kernel_rfl) (fun _ _ _ h => h) (Or.inl ⟨by kernel_rfl, ?_⟩) hHeld ?_
  rotate_left
  · (intro w hSw; (try dsimp only at hSw); go_simp; try with_reducible rfl)
  try simp only [Act.put, List.getElem_toArray, List.getElem_cons_succ, List.getElem_cons_zero, List.setIfInBounds_toArray, List.set_cons_zero, List.set_cons_succ]
  refine wpAnyH_take (i := 15) (oi := ⟨some 78, _, _, _, _, _⟩) (v := ?_) rfl (by kernel_rfl) (by kernel_rfl) (by kernel_rfl) (fun _ _ _ h => h) (Or.inl ⟨by kernel_rfl, ?_⟩) hHeld ?_
  rotate_left
  · (intro w hSw; (try dsimp only at hSw); go_simp; try with_reducible rfl)
  try simp only [Act.put, List.getElem_toArray, List.getElem_cons_succ, List.getElem_cons_zero, List.setIfInBounds_toArray, List.set_cons_zero, List.set_cons_succ]
  refine wpAnyH_take (i := 16) (oi := ⟨some 79, _, _, _, _, _⟩) (v := ?_) rfl (by kernel_rfl) (by kernel_rfl) (by kernel_rfl) (fun _ _ _ h => h) (Or.inl ⟨by kernel_rfl, ?_⟩) hHeld ?_
  rotate_left
  · (intro w hSw; (try dsimp only at hSw); go_simp; try with_reducible rfl)
  try simp only [Act.put, List.getElem_toArray, List.getElem_cons_succ, List.getElem_cons_zero, List.setIfInBounds_toArray, List.set_cons_zero, List.set_cons_succ]
  refine wpAnyH_take (i := 17) (oi := ⟨some 80, _, _, _, _, _⟩) (v := ?_) rfl (by kernel_rfl) (by kernel_rfl) (by kernel_rfl) (fun _ _ _ h => h) (Or.inl ⟨by kernel_rfl, ?_⟩) hHeld ?_
  rotate_left
  · (intro w hSw; (try dsimp only at hSw); go_simp; try with_reducible rfl)
  try simp only [Act.put, List.getElem_toArray, List.getElem_cons_succ, List.getElem_cons_zero, List.setIfInBounds_toArray, List.set_cons_zero, List.set_cons_succ]
  refine wpAnyH_take (i := 18) (oi := ⟨some 81, _, _, _, _, _⟩) (v := ?_) rfl (by kernel_rfl) (by kernel_rfl) (by kernel_rfl) (fun _ _ _ h => h) (Or.inl ⟨by kernel_rfl, ?_⟩) hHeld ?_
  rotate_left
  · (intro w hSw; (try dsimp only at hSw); go_simp; try with_reducible rfl)
  try simp only [Act.put, List.getElem_toArray, List.getElem_cons_succ, List.getElem_cons_zero, List.setIfInBounds_toArray, List.set_cons_zero, List.set_cons_succ]
  refine wpAnyH_take (i := 19) (oi := ⟨some 82, _, _, _, _, _⟩) (v := ?_) rfl (by kernel_rfl) (by kernel_rfl) (by kernel_rfl) (fun _ _ _ h => h) (Or.inl ⟨by kernel_rfl, ?_⟩) hHeld ?_
  rotate_left
  · (intro w hSw; (try dsimp only at hSw); go_simp; try with_reducible rfl)
  try simp only [Act.put, List.getElem_toArray, List.getElem_cons_succ, List.getElem_cons_zero, List.setIfInBounds_toArray, List.set_cons_zero, List.set_cons_succ]
  refine wpAnyH_take (i := 20) (oi := ⟨some 83, _, _, _, _, _⟩) (v := ?_) rfl (by kernel_rfl) (by kernel_rfl) (by kernel_rfl) (fun _ _ _ h => h) (Or.inl ⟨by kernel_rfl, ?_⟩) hHeld ?_
  rotate_left
  · (intro w hSw; (try dsimp only at hSw); go_simp; try with_reducible rfl)
  try simp only [Act.put, List.getElem_toArray, List.getElem_cons_succ, List.getElem_cons_zero, List.setIfInBounds_toArray, List.set_cons_zero, List.set_cons_succ]
  refine wpAnyH_take (i := 21) (oi := ⟨some 84, _, _, _, _, _⟩) (v := ?_) rfl (by kernel_rfl) (by kernel_rfl) (by kernel_rfl) (fun _ _ _ h => h) (Or.inl ⟨by kernel_rfl, ?_⟩) hHeld ?_
  rotate_left
  · (intro w hSw; (try dsimp only at hSw); go_simp; try with_reducible rfl)
  try simp only [Act.put, List.getElem_toArray, List.getElem_cons_succ, List.getElem_cons_zero, List.setIfInBounds_toArray, List.set_cons_zero, List.set_cons_succ]
  refine wpAnyH_take (i := 22) (oi := ⟨some 85, _, _, _, _, _⟩) (v := ?_) rfl (by kernel_rfl) (by kernel_rfl) (by kernel_rfl) (fun _ _ _ h => h) (Or.inl ⟨by kernel_rfl, ?_⟩) hHeld ?_
  rotate_left
  · (intro w hSw; (try dsimp only at hSw); go_simp; try with_reducible rfl)
  try simp only [Act.put, List.getElem_toArray, List.getElem_cons_succ, List.getElem_cons_zero, List.setIfInBounds_toArray, List.set_cons_zero, List.set_cons_succ]
  refine wpAnyH_take (i := 23) (oi := ⟨some 86, _, _, _, _, _⟩) (v := ?_) rfl (by kernel_rfl) (by kernel_rfl) (by kernel_rfl) (fun _ _ _ h => h) (Or.inl ⟨by kernel_rfl, ?_⟩) hHeld ?_
  rotate_left
  · (intro w hSw; (try dsimp only at hSw); go_simp; try with_reducible rfl)
  try simp only [Act.put, List.getElem_toArray, List.getElem_cons_succ, List.getElem_cons_zero, List.setIfInBounds_toArray, List.set_cons_zero, List.set_cons_succ]
  refine wpAnyH_take (i := 24) (oi := ⟨some 87, _, _, _, _, _⟩) (v := ?_) rfl (by kernel_rfl) (by kernel_rfl) (by kernel_rfl) (fun _ _ _ h => h) (Or.inl ⟨by kernel_rfl, ?_⟩) hHeld ?_
  rotate_left
  · (intro w hSw; (try dsimp only at hSw); go_simp; try with_reducible rfl)
  try simp only [Act.put, List.getElem_toArray, List.getElem_cons_succ, List.getElem_cons_zero, List.setIfInBounds_toArray, List.set_cons_zero, List.set_cons_succ]
  refine wpAnyH_take (i := 25) (oi := ⟨some 88, _, _, _, _, _⟩) (v := ?_) rfl (by kernel_rfl) (by kernel_rfl) (by kernel_rfl) (fun _ _ _ h => h) (Or.inl ⟨by kernel_rfl, ?_⟩) hHeld ?_
  rotate_left
  · (intro w hSw; (try dsimp only at hSw); go_simp; try with_reducible rfl)
  try simp only [Act.put, List.getElem_toArray, List.getElem_cons_succ, List.getElem_cons_zero, List.setIfInBounds_toArray, List.set_cons_zero, List.set_cons_succ]
  refine wpAnyH_take (i := 26) (oi := ⟨some 89, _, _, _, _, _⟩) (v := ?_) rfl (by kernel_rfl) (by kernel_rfl) (by kernel_rfl) (fun _ _ _ h => h) (Or.inl ⟨by kernel_rfl, ?_⟩) hHeld ?_
  rotate_left
  · (intro w hSw; (try dsimp only at hSw); go_simp; try with_reducible rfl)
  try simp only [Act.put, List.getElem_toArray, List.getElem_cons_succ, List.getElem_cons_zero, List.setIfInBounds_toArray, List.set_cons_zero, List.set_cons_succ]
  refine wpAnyH_take (i := 27) (oi := ⟨some 90, _, _, _, _, _⟩) (v := ?_) rfl (by kernel_rfl) (by kernel_rfl) (by kernel_rfl) (fun _ _ _ h => h) (Or.inl ⟨by kernel_rfl, ?_⟩) hHeld ?_
  rotate_left
  · (intro w hSw; (try dsimp only at hSw); go_simp; try with_reducible rfl)
  try simp only [Act.put, List.getElem_toArray, List.getElem_cons_succ, List.getElem_cons_zero, List.setIfInBounds_toArray, List.set_cons_zero, List.set_cons_succ]
  refine wpAnyH_take (i := 28) (oi := ⟨some 91, _, _, _, _, _⟩) (v := ?_) rfl (by kernel_rfl) (by kernel_rfl) (by kernel_rfl) (fun _ _ _ h => h) (Or.inl ⟨by kernel_rfl, ?_⟩) hHeld ?_
  rotate_left
  · (intro w hSw; (try dsimp only at hSw); go_simp; try with_reducible rfl)
  try simp only [Act.put, List.getElem_toArray, List.getElem_cons_succ, List.getElem_cons_zero, List.setIfInBounds_toArray, List.set_cons_zero, List.set_cons_succ]
  refine wpAnyH_take (i := 29) (oi := ⟨some 92, _, _, _, _, _⟩) (v := ?_) rfl (by kernel_rfl) (by kernel_rfl) (by kernel_rfl) (fun _ _ _ h => h) (Or.inl ⟨by kernel_rfl, ?_⟩) hHeld ?_
  rotate_left
  · (intro w hSw; (try dsimp only at hSw); go_simp; try with_reducible rfl)
  try simp only [Act.put, List.getElem_toArray, List.getElem_cons_succ, List.getElem_cons_zero, List.setIfInBounds_toArray, List.set_cons_zero, List.set_cons_succ]
  refine wpAnyH_take (i := 30) (oi := ⟨some 93, _, _, _, _, _⟩) (v := ?_) rfl (by kernel_rfl) (by kernel_rfl) (by kernel_rfl) (fun _ _ _ h => h) (Or.inl ⟨by kernel_rfl, ?_⟩) hHeld ?_
  rotate_left
  · (intro w hSw; (try dsimp only at hSw); go_simp; try with_reducible rfl)
  try simp only [Act.put, List.getElem_toArray, List.getElem_cons_succ, List.getElem_cons_zero, List.setIfInBounds_toArray, List.set_cons_zero, List.set_cons_succ]
  refine wpAnyH_take (i := 31) (oi := ⟨some 94, _, _, _, _, _⟩) (v := ?_) rfl (by kernel_rfl) (by kernel_rfl) (by kernel_rfl) (fun _ _ _ h => h) (Or.inl ⟨by kernel_rfl, ?_⟩) hHeld ?_
  rotate_left
  · (intro w hSw; (try dsimp only at hSw); go_simp; try with_reducible rfl)
  try simp only [Act.put, List.getElem_toArray, List.getElem_cons_succ, List.getElem_cons_zero, List.setIfInBounds_toArray, List.set_cons_zero, List.set_cons_succ]
  refine wpAnyH_take (i := 32) (oi := ⟨some 95, _, _, _, _, _⟩) (v := ?_) rfl (by kernel_rfl) (by kernel_rfl) (by kernel_rfl) (fun _ _ _ h => h) (Or.inl ⟨by kernel_rfl, ?_⟩) hHeld ?_
  rotate_left
  · (intro w hSw; (try dsimp only at hSw); go_simp; try with_reducible rfl)
  try simp only [Act.put, List.getElem_toArray, List.getElem_cons_succ, List.getElem_cons_zero, List.setIfInBounds_toArray, List.set_cons_zero, List.set_cons_succ]
  refine wpAnyH_take (i := 33) (oi := ⟨some 96, _, _, _, _, _⟩) (v := ?_) rfl (by kernel_rfl) (by kernel_rfl) (by kernel_rfl) (fun _ _ _ h => h) (Or.inl ⟨by kernel_rfl, ?_⟩) hHeld ?_
  rotate_left
  · (intro w hSw; (try dsimp only at hSw); go_simp; try with_reducible rfl)
  try simp only [Act.put, List.getElem_toArray, List.getElem_cons_succ, List.getElem_cons_zero, List.setIfInBounds_toArray, List.set_cons_zero, List.set_cons_succ]
  refine wpAnyH_take (i := 34) (oi := ⟨some 97, _, _, _, _, _⟩) (v := ?_) rfl (by kernel_rfl) (by kernel_rfl) (by kernel_rfl) (fun _ _ _ h => h) (Or.inl ⟨by kernel_rfl, ?_⟩) hHeld ?_
  rotate_left
  · (intro w hSw; (try dsimp only at hSw); go_simp; try with_reducible rfl)
  try simp only [Act.put, List.getElem_toArray, List.getElem_cons_succ, List.getElem_cons_zero, List.setIfInBounds_toArray, List.set_cons_zero, List.set_cons_succ]
  refine wpAnyH_take (i := 35) (oi := ⟨some 98, _, _, _, _, _⟩) (v := ?_) rfl (by kernel_rfl) (by kernel_rfl) (by kernel_rfl) (fun _ _ _ h => h) (Or.inl ⟨by kernel_rfl, ?_⟩) hHeld ?_
  rotate_left
  · (intro w hSw; (try dsimp only at hSw); go_simp; try with_reducible rfl)
  try simp only [Act.put, List.getElem_toArray, List.getElem_cons_succ, List.getElem_cons_zero, List.setIfInBounds_toArray, List.set_cons_zero, List.set_cons_succ]
  refine wpAnyH_take (i := 36) (oi := ⟨some 99, _, _, _, _, _⟩) (v := ?_) rfl (by kernel_rfl) (by kernel_rfl) (by kernel_rfl) (fun _ _ _ h => h) (Or.inl ⟨by kernel_rfl, ?_⟩) hHeld ?_
  rotate_left
  · (intro w hSw; (try dsimp only at hSw); go_simp; try with_reducible rfl)
  try simp only [Act.put, List.getElem_toArray, List.getElem_cons_succ, List.getElem_cons_zero, List.setIfInBounds_toArray, List.set_cons_zero, List.set_cons_succ]
  refine wpAnyH_take (i := 37) (oi := ⟨some 100, _, _, _, _, _⟩) (v := ?_) rfl (by kernel_rfl) (by kernel_rfl) (by kernel_rfl) (fun _ _ _ h => h) (Or.inl ⟨by kernel_rfl, ?_⟩) hHeld ?_
  rotate_left
  · (intro w hSw; (try dsimp only at hSw); go_simp; try with_reducible rfl)
  try simp only [Act.put, List.getElem_toArray, List.getElem_cons_succ, List.getElem_cons_zero, List.setIfInBounds_toArray, List.set_cons_zero, List.set_cons_succ]
  refine wpAnyH_take (i := 38) (oi := ⟨some 101, _, _, _, _, _⟩) (v := ?_) rfl (by kernel_rfl) (by kernel_rfl) (by kernel_rfl) (fun _ _ _ h => h) (Or.inl ⟨by kernel_rfl, ?_⟩) hHeld ?_
  rotate_left
  · (intro w hSw; (try dsimp only at hSw); go_simp; try with_reducible rfl)
  try simp only [Act.put, List.getElem_toArray, List.getElem_cons_succ, List.getElem_cons_zero, List.setIfInBounds_toArray, List.set_cons_zero, List.set_cons_succ]
  refine wpAnyH_take (i := 39) (oi := ⟨some 102, _, _, _, _, _⟩) (v := ?_) rfl (by kernel_rfl) (by kernel_rfl) (by kernel_rfl) (fun _ _ _ h => h) (Or.inl ⟨by kernel_rfl, ?_⟩) hHeld ?_
  rotate_left
  · (intro w hSw; (try dsimp only at hSw); go_simp; try with_reducible rfl)
  try simp only [Act.put, List.getElem_toArray, List.getElem_cons_succ, List.getElem_cons_zero, List.setIfInBounds_toArray, List.set_cons_zero, List.set_cons_succ]
  refine wpAnyH_take (i := 40) (oi := ⟨some 103, _, _, _, _, _⟩) (v := ?_) rfl (by kernel_rfl) (by kernel_rfl) (by kernel_rfl) (fun _ _ _ h => h) (Or.inl ⟨by kernel_rfl, ?_⟩) hHeld ?_
  rotate_left
  · (intro w hSw; (try dsimp only at hSw); go_simp; try with_reducible rfl)
  try simp only [Act.put, List.getElem_toArray, List.getElem_cons_succ, List.getElem_cons_zero, List.setIfInBounds_toArray, List.set_cons_zero, List.set_cons_succ]
  refine wpAnyH_take (i := 41) (oi := ⟨some 104, _, _, _, _, _⟩) (v := ?_) rfl (by kernel_rfl) (by kernel_rfl) (by kernel_rfl) (fun _ _ _ h => h) (Or.inl ⟨by kernel_rfl, ?_⟩) hHeld ?_
  rotate_left
  · (intro w hSw; (try dsimp only at hSw); go_simp; try with_reducible rfl)
  try simp only [Act.put, List.getElem_toArray, List.getElem_cons_succ, List.getElem_cons_zero, List.setIfInBounds_toArray, List.set_cons_zero, List.set_cons_succ]
  refine wpAnyH_take (i := 42) (oi := ⟨some 105, _, _, _, _, _⟩) (v := ?_) rfl (by kernel_rfl) (by kernel_rfl) (by kernel_rfl) (fun _ _ _ h => h) (Or.inl ⟨by kernel_rfl, ?_⟩) hHeld ?_
  rotate_left
  · (intro w hSw; (try dsimp only at hSw); go_simp; try with_reducible rfl)
  try simp only [Act.put, List.getElem_toArray, List.getElem_cons_succ, List.getElem_cons_zero, List.setIfInBounds_toArray, List.set_cons_zero, List.set_cons_succ]
  refine wpAnyH_take (i := 43) (oi := ⟨some 106, _, _, _, _, _⟩) (v := ?_) rfl (by kernel_rfl) (by kernel_rfl) (by kernel_rfl) (fun _ _ _ h => h) (Or.inl ⟨by kernel_rfl, ?_⟩) hHeld ?_
  rotate_left
  · (intro w hSw; (try dsimp only at hSw); go_simp; try with_reducible rfl)
  try simp only [Act.put, List.getElem_toArray, List.getElem_cons_succ, List.getElem_cons_zero, List.setIfInBounds_toArray, List.set_cons_zero, List.set_cons_succ]
  refine wpAnyH_take (i := 44) (oi := ⟨some 107, _, _, _, _, _⟩) (v := ?_) rfl (by kernel_rfl) (by kernel_rfl) (by kernel_rfl) (fun _ _ _ h => h) (Or.inl ⟨by kernel_rfl, ?_⟩) hHeld ?_
  rotate_left
  · (intro w hSw; (try dsimp only at hSw); go_simp; try with_reducible rfl)
  try simp only [Act.put, List.getElem_toArray, List.getElem_cons_succ, List.getElem_cons_zero, List.setIfInBounds_toArray, List.set_cons_zero, List.set_cons_succ]
  refine wpAnyH_take (i := 45) (oi := ⟨some 108, _, _, _, _, _⟩) (v := ?_) rfl (by kernel_rfl) (by kernel_rfl) (by kernel_rfl) (fun _ _ _ h => h) (Or.inl ⟨by kernel_rfl, ?_⟩) hHeld ?_
  rotate_left
  · (intro w hSw; (try dsimp only at hSw); go_simp; try with_reducible rfl)
  try simp only [Act.put, List.getElem_toArray, List.getElem_cons_succ, List.getElem_cons_zero, List.setIfInBounds_toArray, List.set_cons_zero, List.set_cons_succ]
  refine wpAnyH_take (i := 46) (oi := ⟨some 109, _, _, _, _, _⟩) (v := ?_) rfl (by kernel_rfl) (by kernel_rfl) (by kernel_rfl) (fun _ _ _ h => h) (Or.inl ⟨by kernel_rfl, ?_⟩) hHeld ?_
  rotate_left
  · (intro w hSw; (try dsimp only at hSw); go_simp; try with_reducible rfl)
  try simp only [Act.put, List.getElem_toArray, List.getElem_cons_succ, List.getElem_cons_zero, List.setIfInBounds_toArray, List.set_cons_zero, List.set_cons_succ]
  refine wpAnyH_take (i := 47) (oi := ⟨some 110, _, _, _, _, _⟩) (v := ?_) rfl (by kernel_rfl) (by kernel_rfl) (by kernel_rfl) (fun _ _ _ h => h) (Or.inl ⟨by kernel_rfl, ?_⟩) hHeld ?_
  rotate_left
  · (intro w hSw; (try dsimp only at hSw); go_simp; try with_reducible rfl)
  try simp only [Act.put, List.getElem_toArray, List.getElem_cons_succ, List.getElem_cons_zero, List.setIfInBounds_toArray, List.set_cons_zero, List.set_cons_succ]
  refine wpAnyH_take (i := 48) (oi := ⟨some 111, _, _, _, _, _⟩) (v := ?_) rfl (by kernel_rfl) (by kernel_rfl) (by kernel_rfl) (fun _ _ _ h => h) (Or.inl ⟨by kernel_rfl, ?_⟩) hHeld ?_
  rotate_left
  · (intro w hSw; (try dsimp only at hSw); go_simp; try with_reducible rfl)
  try simp only [Act.put, List.getElem_toArray, List.getElem_cons_succ, List.getElem_cons_zero, List.setIfInBounds_toArray, List.set_cons_zero, List.set_cons_succ]
  refine wpAnyH_take (i := 49) (oi := ⟨some 112, _, _, _, _, _⟩) (v := ?_) rfl (by kernel_rfl) (by kernel_rfl) (by kernel_rfl) (fun _ _ _ h => h) (Or.inl ⟨by kernel_rfl, ?_⟩) hHeld ?_
  rotate_left
  · (intro w hSw; (try dsimp only at hSw); go_simp; try with_reducible rfl)
  try simp only [Act.put, List.getElem_toArray, List.getElem_cons_succ, List.getElem_cons_zero, List.setIfInBounds_toArray, List.set_cons_zero, List.set_cons_succ]
  refine wpAnyH_take (i := 50) (oi := ⟨some 113, _, _, _, _, _⟩) (v := ?_) rfl (by kernel_rfl) (by kernel_rfl) (by kernel_rfl) (fun _ _ _ h => h) (Or.inl ⟨by kernel_rfl, ?_⟩) hHeld ?_
  rotate_left
  · (intro w hSw; (try dsimp only at hSw); go_simp; try with_reducible rfl)
  try simp only [Act.put, List.getElem_toArray, List.getElem_cons_succ, List.getElem_cons_zero, List.setIfInBounds_toArray, List.set_cons_zero, List.set_cons_succ]
  refine wpAnyH_take (i := 51) (oi := ⟨some 114, _, _, _, _, _⟩) (v := ?_) rfl (by kernel_rfl) (by kernel_rfl) (by kernel_rfl) (fun _ _ _ h => h) (Or.inl ⟨by kernel_rfl, ?_⟩) hHeld ?_
  rotate_left
  · (intro w hSw; (try dsimp only at hSw); go_simp; try with_reducible rfl)
  try simp only [Act.put, List.getElem_toArray, List.getElem_cons_succ, List.getElem_cons_zero, List.setIfInBounds_toArray, List.set_cons_zero, List.set_cons_succ]
  refine wpAnyH_take (i := 52) (oi := ⟨some 115, _, _, _, _, _⟩) (v := ?_) rfl (by kernel_rfl) (by kernel_rfl) (by kernel_rfl) (fun _ _ _ h => h) (Or.inl ⟨by kernel_rfl, ?_⟩) hHeld ?_
  rotate_left
  · (intro w hSw; (try dsimp only at hSw); go_simp; try with_reducible rfl)
  try simp only [Act.put, List.getElem_toArray, List.getElem_cons_succ, List.getElem_cons_zero, List.setIfInBounds_toArray, List.set_cons_zero, List.set_cons_succ]
  refine wpAnyH_take (i := 53) (oi := ⟨some 116, _, _, _, _, _⟩) (v := ?_) rfl (by kernel_rfl) (by kernel_rfl) (by kernel_rfl) (fun _ _ _ h => h) (Or.inl ⟨by kernel_rfl, ?_⟩) hHeld ?_
  rotate_left
  · (intro w hSw; (try dsimp only at hSw); go_simp; try with_reducible rfl)
  try simp only [Act.put, List.getElem_toArray, List.getElem_cons_succ, List.getElem_cons_zero, List.setIfInBounds_toArray, List.set_cons_zero, List.set_cons_succ]
  refine wpAnyH_take (i := 54) (oi := ⟨some 117, _, _, _, _, _⟩) (v := ?_) rfl (by kernel_rfl) (by kernel_rfl) (by kernel_rfl) (fun _ _ _ h => h) (Or.inl ⟨by kernel_rfl, ?_⟩) hHeld ?_
  rotate_left
  · (intro w hSw; (try dsimp only at hSw); go_simp; try with_reducible rfl)
  try simp only [Act.put, List.getElem_toArray, List.getElem_cons_succ, List.getElem_cons_zero, List.setIfInBounds_toArray, List.set_cons_zero, List.set_cons_succ]
  refine wpAnyH_take (i := 55) (oi := ⟨some 118, _, _, _, _, _⟩) (v := ?_) rfl (by kernel_rfl) (by kernel_rfl) (by kernel_rfl) (fun _ _ _ h => h) (Or.inl ⟨by kernel_rfl, ?_⟩) hHeld ?_
  rotate_left
  · (intro w hSw; (try dsimp only at hSw); go_simp; try with_reducible rfl)
  try simp only [Act.put, List.getElem_toArray, List.getElem_cons_succ, List.getElem_cons_zero, List.setIfInBounds_toArray, List.set_cons_zero, List.set_cons_succ]
  refine wpAnyH_take (i := 56) (oi := ⟨some 119, _, _, _, _, _⟩) (v := ?_) rfl (by kernel_rfl) (by kernel_rfl) (by kernel_rfl) (fun _ _ _ h => h) (Or.inl ⟨by kernel_rfl, ?_⟩) hHeld ?_
  rotate_left
  · (intro w hSw; (try dsimp only at hSw); go_simp; try with_reducible rfl)
  try simp only [Act.put, List.getElem_toArray, List.getElem_cons_succ, List.getElem_cons_zero, List.setIfInBounds_toArray, List.set_cons_zero, List.set_cons_succ]
  refine wpAnyH_take (i := 57) (oi := ⟨some 120, _, _, _, _, _⟩) (v := ?_) rfl (by kernel_rfl) (by kernel_rfl) (by kernel_rfl) (fun _ _ _ h => h) (Or.inl ⟨by kernel_rfl, ?_⟩) hHeld ?_
  rotate_left
  · (intro w hSw; (try dsimp only at hSw); go_simp; try with_reducible rfl)
  try simp only [Act.put, List.getElem_toArray, List.getElem_cons_succ, List.getElem_cons_zero, List.setIfInBounds_toArray, List.set_cons_zero, List.set_cons_succ]
  refine wpAnyH_take (i := 58) (oi := ⟨some 121, _, _, _, _, _⟩) (v := ?_) rfl (by kernel_rfl) (by kernel_rfl) (by kernel_rfl) (fun _ _ _ h => h) (Or.inl ⟨by kernel_rfl, ?_⟩) hHeld ?_
  rotate_left
  · (intro w hSw; (try dsimp only at hSw); go_simp; try with_reducible rfl)
  try simp only [Act.put, List.getElem_toArray, List.getElem_cons_succ, List.getElem_cons_zero, List.setIfInBounds_toArray, List.set_cons_zero, List.set_cons_succ]
  refine wpAnyH_take (i := 59) (oi := ⟨some 122, _, _, _, _, _⟩) (v := ?_) rfl (by kernel_rfl) (by kernel_rfl) (by kernel_rfl) (fun _ _ _ h => h) (Or.inl ⟨by kernel_rfl, ?_⟩) hHeld ?_
  rotate_left
  · (intro w hSw; (try dsimp only at hSw); go_simp; try with_reducible rfl)
  try simp only [Act.put, List.getElem_toArray, List.getElem_cons_succ, List.getElem_cons_zero, List.setIfInBounds_toArray, List.set_cons_zero, List.set_cons_succ]
  refine wpAnyH_take (i := 60) (oi := ⟨some 123, _, _, _, _, _⟩) (v := ?_) rfl (by kernel_rfl) (by kernel_rfl) (by kernel_rfl) (fun _ _ _ h => h) (Or.inl ⟨by kernel_rfl, ?_⟩) hHeld ?_
  rotate_left
  · (intro w hSw; (try dsimp only at hSw); go_simp; try with_reducible rfl)
  try simp only [Act.put, List.getElem_toArray, List.getElem_cons_succ, List.getElem_cons_zero, List.setIfInBounds_toArray, List.set_cons_zero, List.set_cons_succ]
  refine wpAnyH_ready (rs := [61]) (by kernel_rfl) (by simp) ?_
  refine (AllReadyH.cons rfl (fun K hK => ?_) AllReadyH.nil)
  try rw [if_pos (by kernel_rfl)]
  go_simp
  go_at_call 19
  refine (size_to ll14 _ _ n2 (by decide) (by decide)).mono ?_
  rintro e y4 ⟨rfl, kk⟩
  have n2 := n2.below kk
  have n3 := n3.below kk
  have bel := hthen bel kk
  have b1 := b1.below kk b1.lt
  have b2 := b2.below kk b2.lt
  have b4 := b4.below kk b4.lt
  have b5 := b5.below kk b5.lt
  clear kk
  try dsimp only
  refine hK.out _ _ (by have a0 := b1.cell 0; have a1 := b1.cell 1; have a2 := b1.cell 2; have a3 := b2.cell 0; have a4 := b2.cell 1; have a5 := b2.cell 2; have a6 := b4.cell 1; have a7 := b5.cell 1; simp at a0 a1 a2 a3 a4 a5 a6 a7; exact ⟨a0, a1, a2, a3, a4, a5, a6, a7⟩) (fun hHeld => ?_)
  clear hK K
  try simp only [Act.put, List.getElem_toArray, List.getElem_cons_succ, List.getElem_cons_zero, List.setIfInBounds_toArray, List.set_cons_zero, List.set_cons_succ]
  refine wpAnyH_take (i := 62) (oi := ⟨some 125, _, _, _, _, _⟩) (v := ?_) rfl (by kernel_rfl) (by kernel_rfl) (by kernel_rfl) (fun _ _ _ h => h) (Or.inl ⟨by kernel_rfl, ?_⟩) hHeld ?_
  rotate_left
  · (intro w hSw; (try dsimp only at hSw); go_simp; try with_reducible rfl)
  try simp only [Act.put, List.getElem_toArray, List.getElem_cons_succ, List.getElem_cons_zero, List.setIfInBounds_toArray, List.set_cons_zero, List.set_cons_succ]
  refine wpAnyH_take (i := 63) (oi := ⟨some 126, _, _, _, _, _⟩) (v := ?_) rfl (by kernel_rfl) (by kernel_rfl) (by kernel_rfl) (fun _ _ _ h => h) (Or.inl ⟨by kernel_rfl, ?_⟩) hHeld ?_
  rotate_left
  · (intro w hSw; (try dsimp only at hSw); go_simp; try with_reducible rfl)
  try simp only [Act.put, List.getElem_toArray, List.getElem_cons_succ, List.getElem_cons_zero, List.setIfInBounds_toArray, List.set_cons_zero, List.set_cons_succ]
  refine wpAnyH_take (i := 64) (oi := ⟨some 127, _, _, _, _, _⟩) (v := ?_) rfl (by kernel_rfl) (by kernel_rfl) (by kernel_rfl) (fun _ _ _ h => h) (Or.inl ⟨by kernel_rfl, ?_⟩) hHeld ?_
  rotate_left
  · (intro w hSw; (try dsimp only at hSw); go_simp; try with_reducible rfl)
  try simp only [Act.put, List.getElem_toArray, List.getElem_cons_succ, List.getElem_cons_zero, List.setIfInBounds_toArray, List.set_cons_zero, List.set_cons_succ]
  refine wpAnyH_take (i := 65) (oi := ⟨some 128, _, _, _, _, _⟩) (v := ?_) rfl (by kernel_rfl) (by kernel_rfl) (by kernel_rfl) (fun _ _ _ h => h) (Or.inl ⟨by kernel_rfl, ?_⟩) hHeld ?_
  rotate_left
  · (intro w hSw; (try dsimp only at hSw); go_simp; try with_reducible rfl)
  try simp only [Act.put, List.getElem_toArray, List.getElem_cons_succ, List.getElem_cons_zero, List.setIfInBounds_toArray, List.set_cons_zero, List.set_cons_succ]
  refine wpAnyH_ready (rs := [66]) (by kernel_rfl) (by simp) ?_
  refine (AllReadyH.cons rfl (fun K hK => ?_) AllReadyH.nil)
  try rw [if_pos (by kernel_rfl)]
  go_simp
  go_at_call 29
  refine (without_to ll15 _ _ n2 (by decide) (by decide)).mono ?_
  rintro e y5 ⟨v7, rfl, n7, kk⟩
  have n2 := n2.below kk
  have n3 := n3.below kk
  have bel := hthen bel kk
  have b1 := b1.below kk b1.lt
  have b2 := b2.below kk b2.lt
  have b4 := b4.below kk b4.lt
  have b5 := b5.below kk b5.lt
  obtain ⟨A7, c7, C7, d7, rfl⟩ := n7.form2 (a := 1) (b := 1) rfl rfl
  clear kk n7
  try dsimp only
  refine hK.out _ _ (by have a0 := b1.cell 0; have a1 := b1.cell 1; have a2 := b1.cell 2; have a3 := b2.cell 0; have a4 := b2.cell 1; have a5 := b2.cell 2; have a6 := b4.cell 1; have a7 := b5.cell 1; simp at a0 a1 a2 a3 a4 a5 a6 a7; exact ⟨a0, a1, a2, a3, a4, a5, a6, a7⟩) (fun hHeld => ?_)
  clear hK K
  try simp only [Act.put, List.getElem_toArray, List.getElem_cons_succ, List.getElem_cons_zero, List.setIfInBounds_toArray, List.set_cons_zero, List.set_cons_succ]
  refine wpAnyH_take (i := 67) (oi := ⟨some 130, _, _, _, _, _⟩) (v := ?_) rfl (by kernel_rfl) (by kernel_rfl) (by kernel_rfl) (fun _ _ _ h => h) (Or.inl ⟨by kernel_rfl, ?_⟩) hHeld ?_
  rotate_left
  · (intro w hSw; (try dsimp only at hSw); go_simp; try with_reducible rfl)
  try simp only [Act.put, List.getElem_toArray, List.getElem_cons_succ, List.getElem_cons_zero, List.setIfInBounds_toArray, List.set_cons_zero, List.set_cons_succ]
  refine wpAnyH_take (i := 68) (oi := ⟨some 131, _, _, _, _, _⟩) (v := ?_) rfl (by kernel_rfl) (by kernel_rfl) (by kernel_rfl) (fun _ _ _ h => h) (Or.inl ⟨by kernel_rfl, ?_⟩) hHeld ?_
  rotate_left
  · (intro w hSw; (try dsimp only at hSw); go_simp; try with_reducible rfl)
  try simp only [Act.put, List.getElem_toArray, List.getElem_cons_succ, List.getElem_cons_zero, List.setIfInBounds_toArray, List.set_cons_zero, List.set_cons_succ]
  refine wpAnyH_take (i := 69) (oi := ⟨some 132, _, _, _, _, _⟩) (v := ?_) rfl (by kernel_rfl) (by kernel_rfl) (by kernel_rfl) (fun _ _ _ h => h) (Or.inl ⟨by kernel_rfl, ?_⟩) hHeld ?_
  rotate_left
  · (intro w hSw; (try dsimp only at hSw); go_simp; try with_reducible rfl)
  try simp only [Act.put, List.getElem_toArray, List.getElem_cons_succ, List.getElem_cons_zero, List.setIfInBounds_toArray, List.set_cons_zero, List.set_cons_succ]
  refine wpAnyH_take (i := 70) (oi := ⟨some 133, _, _, _, _, _⟩) (v := ?_) rfl (by kernel_rfl) (by kernel_rfl) (by kernel_rfl) (fun _ _ _ h => h) (Or.inl ⟨by kernel_rfl, ?_⟩) hHeld ?_
  rotate_left
  · (intro w hSw; (try dsimp only at hSw); go_simp; try with_reducible rfl)
  try simp only [Act.put, List.getElem_toArray, List.getElem_cons_succ, List.getElem_cons_zero, List.setIfInBounds_toArray, List.set_cons_zero, List.set_cons_succ]
  refine wpAnyH_take (i := 71) (oi := ⟨some 134, _, _, _, _, _⟩) (v := ?_) rfl (by kernel_rfl) (by kernel_rfl) (by kernel_rfl) (fun _ _ _ h => h) (Or.inl ⟨by kernel_rfl, ?_⟩) hHeld ?_
  rotate_left
  · (intro w hSw; (try dsimp only at hSw); go_simp; try with_reducible rfl)
  try simp only [Act.put, List.getElem_toArray, List.getElem_cons_succ, List.getElem_cons_zero, List.setIfInBounds_toArray, List.set_cons_zero, List.set_cons_succ]
  refine wpAnyH_ready (rs := [72, 73]) (by kernel_rfl) (by simp) ?_
  refine (AllReadyH.cons rfl (fun K hK => ?_) (AllReadyH.cons rfl (fun K hK => ?_) AllReadyH.nil))
  · try rw [if_pos (by kernel_rfl)]
    go_simp
    obtain ⟨y6, hX⟩ : ∃ x, y5.alloc (.cells #[.string ⟨#[]⟩] 9) = x := ⟨_, rfl⟩
    obtain ⟨ie1, hi⟩ : ∃ i, y5.heap.size = i := ⟨_, rfl⟩
    have kk : Below y5.heap.size y5 y6 := by rw [← hX]; exact (Below.refl _ _).alloc (Nat.le_refl _) _
    have e1 : Blk y6 ie1 9 #[.string ⟨#[]⟩] := by rw [← hX, ← hi]; exact Blk.new _ _ _
    rw [hX, hi]
    have n2 := n2.below kk
    have n3 := n3.below kk
    have bel := hthen bel kk
    have b1 := b1.below kk b1.lt
    have b2 := b2.below kk b2.lt
    have b4 := b4.below kk b4.lt
    have b5 := b5.below kk b5.lt
    clear kk hX hi
    try dsimp only
    refine hK.out _ _ (by have a0 := b1.cell 0; have a1 := b1.cell 1; have a2 := b1.cell 2; have a3 := b2.cell 0; have a4 := b2.cell 1; have a5 := b2.cell 2; have a6 := b4.cell 1; have a7 := b5.cell 1; simp at a0 a1 a2 a3 a4 a5 a6 a7; exact ⟨a0, a1, a2, a3, a4, a5, a6, a7⟩) (fun hHeld => ?_)
    clear hK K
    try simp only [Act.put, List.getElem_toArray, List.getElem_cons_succ, List.getElem_cons_zero, List.setIfInBounds_toArray, List.set_cons_zero, List.set_cons_succ]
    refine wpAnyH_ready (rs := [73]) (by kernel_rfl) (by simp) ?_
    refine (AllReadyH.cons rfl (fun K hK => ?_) AllReadyH.nil)
    try rw [if_pos (by kernel_rfl)]
    go_simp
    obtain ⟨y7, hX⟩ : ∃ x, y6.alloc (.cells #[.string ⟨#[]⟩] 9) = x := ⟨_, rfl⟩
    obtain ⟨ie2, hi⟩ : ∃ i, y6.heap.size = i := ⟨_, rfl⟩
    have kk : Below y6.heap.size y6 y7 := by rw [← hX]; exact (Below.refl _ _).alloc (Nat.le_refl _) _
    have e2 : Blk y7 ie2 9 #[.string ⟨#[]⟩] := by rw [← hX, ← hi]; exact Blk.new _ _ _
    rw [hX, hi]
    have n2 := n2.below kk
    have n3 := n3.below kk
    have bel := hthen bel kk
    have b1 := b1.below kk b1.lt
    have b2 := b2.below kk b2.lt
    have b4 := b4.below kk b4.lt
    have b5 := b5.below kk b5.lt
    have e1 := e1.below kk e1.lt
    clear kk hX hi
    try dsimp only
    refine hK.out _ _ (by have a0 := b1.cell 0; have a1 := b1.cell 1; have a2 := b1.cell 2; have a3 := b2.cell 0; have a4 := b2.cell 1; have a5 := b2.cell 2; have a6 := b4.cell 1; have a7 := b5.cell 1; simp at a0 a1 a2 a3 a4 a5 a6 a7; exact ⟨a0, a1, a2, a3, a4, a5, a6, a7⟩) (fun hHeld => ?_)
    clear hK K
    try simp only [Act.put, List.getElem_toArray, List.getElem_cons_succ, List.getElem_cons_zero, List.setIfInBounds_toArray, List.set_cons_zero, List.set_cons_succ]
    refine wpAnyH_take (i := 74) (oi := ⟨some 137, _, _, _, _, _⟩) (v := ?_) rfl (by kernel_rfl) (by kernel_rfl) (by kernel_rfl) (fun _ _ _ h => h) (Or.inl ⟨by kernel_rfl, ?_⟩) hHeld ?_
    rotate_left
    · (intro w hSw; (try dsimp only at hSw); go_simp; try with_reducible rfl)
    try simp only [Act.put, List.getElem_toArray, List.getElem_cons_succ, List.getElem_cons_zero, List.setIfInBounds_toArray, List.set_cons_zero, List.set_cons_succ]
    refine wpAnyH_ready (rs := [75]) (by kernel_rfl) (by simp) ?_
    refine (AllReadyH.cons rfl (fun K hK => ?_) AllReadyH.nil)
    try rw [if_pos (by kernel_rfl)]
    go_simp
    go_at_call 17
    refine (check_to ll16 _ _ ⟨_, _, rfl, ss_one e1, ss_one e2⟩ (by decide) (by decide)).mono ?_
    rintro e y8 ⟨rfl, kk⟩
    have n2 := n2.below kk
    have n3 := n3.below kk
    have bel := hthen bel kk
    have b1 := b1.below kk b1.lt
    have b2 := b2.below kk b2.lt
    have b4 := b4.below kk b4.lt
    have b5 := b5.below kk b5.lt
    clear kk
    try dsimp only
    refine hK.out _ _ (by have a0 := b1.cell 0; have a1 := b1.cell 1; have a2 := b1.cell 2; have a3 := b2.cell 0; have a4 := b2.cell 1; have a5 := b2.cell 2; have a6 := b4.cell 1; have a7 := b5.cell 1; simp at a0 a1 a2 a3 a4 a5 a6 a7; exact ⟨a0, a1, a2, a3, a4, a5, a6, a7⟩) (fun hHeld => ?_)
    clear hK K
    try simp only [Act.put, List.getElem_toArray, List.getElem_cons_succ, List.getElem_cons_zero, List.setIfInBounds_toArray, List.set_cons_zero, List.set_cons_succ]
    refine wpAnyH_take (i := 76) (oi := ⟨some 139, _, _, _, _, _⟩) (v := ?_) rfl (by kernel_rfl) (by kernel_rfl) (by kernel_rfl) (fun _ _ _ h => h) (Or.inl ⟨by kernel_rfl, ?_⟩) hHeld ?_
    rotate_left
    · (intro w hSw; (try dsimp only at hSw); go_simp; try with_reducible rfl)
    try simp only [Act.put, List.getElem_toArray, List.getElem_cons_succ, List.getElem_cons_zero, List.setIfInBounds_toArray, List.set_cons_zero, List.set_cons_succ]
    refine wpAnyH_take (i := 77) (oi := ⟨some 140, _, _, _, _, _⟩) (v := ?_) rfl (by kernel_rfl) (by kernel_rfl) (by kernel_rfl) (fun _ _ _ h => h) (Or.inl ⟨by kernel_rfl, ?_⟩) hHeld ?_
    rotate_left
    · (intro w hSw; (try dsimp only at hSw); go_simp; try with_reducible rfl)
    try simp only [Act.put, List.getElem_toArray, List.getElem_cons_succ, List.getElem_cons_zero, List.setIfInBounds_toArray, List.set_cons_zero, List.set_cons_succ]
    refine wpAnyH_take (i := 78) (oi := ⟨some 0, _, _, _, _, _⟩) (v := ?_) rfl (by kernel_rfl) (by kernel_rfl) (by kernel_rfl) (fun _ _ _ h => h) (Or.inl ⟨by kernel_rfl, ?_⟩) hHeld ?_
    rotate_left
    · (intro w hSw; (try dsimp only at hSw); go_simp; try with_reducible rfl)
    try simp only [Act.put, List.getElem_toArray, List.getElem_cons_succ, List.getElem_cons_zero, List.setIfInBounds_toArray, List.set_cons_zero, List.set_cons_succ]
    refine wpAnyH_done (by kernel_rfl) ?_ _
    refine NoPanic.normal ?_
    go_wp2
    go_ret
    exact ⟨rfl, bel⟩
  · try rw [if_pos (by kernel_rfl)]
    go_simp
    obtain ⟨y6, hX⟩ : ∃ x, y5.alloc (.cells #[.string ⟨#[]⟩] 9) = x := ⟨_, rfl⟩
    obtain ⟨ie2, hi⟩ : ∃ i, y5.heap.size = i := ⟨_, rfl⟩
    have kk : Below y5.heap.size y5 y6 := by rw [← hX]; exact (Below.refl _ _).alloc (Nat.le_refl _) _
    have e2 : Blk y6 ie2 9 #[.string ⟨#[]⟩] := by rw [← hX, ← hi]; exact Blk.new _ _ _
    rw [hX, hi]
    have n2 := n2.below kk
    have n3 := n3.below kk
    have bel := hthen bel kk
    have b1 := b1.below kk b1.lt
    have b2 := b2.below kk b2.lt
    have b4 := b4.below kk b4.lt
    have b5 := b5.below kk b5.lt
    clear kk hX hi
    try dsimp only
    refine hK.out _ _ (by have a0 := b1.cell 0; have a1 := b1.cell 1; have a2 := b1.cell 2; have a3 := b2.cell 0; have a4 := b2.cell 1; have a5 := b2.cell 2; have a6 := b4.cell 1; have a7 := b5.cell 1; simp at a0 a1 a2 a3 a4 a5 a6 a7; exact ⟨a0, a1, a2, a3, a4, a5, a6, a7⟩) (fun hHeld => ?_)
    clear hK K
    try simp only [Act.put, List.getElem_toArray, List.getElem_cons_succ, List.getElem_cons_zero, List.setIfInBounds_toArray, List.set_cons_zero, List.set_cons_succ]
    refine wpAnyH_ready (rs := [72]) (by kernel_rfl) (by simp) ?_
    refine (AllReadyH.cons rfl (fun K hK => ?_) AllReadyH.nil)
    try rw [if_pos (by kernel_rfl)]
    go_simp
    obtain ⟨y7, hX⟩ : ∃ x, y6.alloc (.cells #[.string ⟨#[]⟩] 9) = x := ⟨_, rfl⟩
    obtain ⟨ie1, hi⟩ : ∃ i, y6.heap.size = i := ⟨_, rfl⟩
    have kk : Below y6.heap.size y6 y7 := by rw [← hX]; exact (Below.refl _ _).alloc (Nat.le_refl _) _
    have e1 : Blk y7 ie1 9 #[.string ⟨#[]⟩] := by rw [← hX, ← hi]; exact Blk.new _ _ _
    rw [hX, hi]
    have n2 := n2.below kk
    have n3 := n3.below kk
    have bel := hthen bel kk
    have b1 := b1.below kk b1.lt
    have b2 := b2.below kk b2.lt
    have b4 := b4.below kk b4.lt
    have b5 := b5.below kk b5.lt
    have e2 := e2.below kk e2.lt
    clear kk hX hi
    try dsimp only
    refine hK.out _ _ (by have a0 := b1.cell 0; have a1 := b1.cell 1; have a2 := b1.cell 2; have a3 := b2.cell 0; have a4 := b2.cell 1; have a5 := b2.cell 2; have a6 := b4.cell 1; have a7 := b5.cell 1; simp at a0 a1 a2 a3 a4 a5 a6 a7; exact ⟨a0, a1, a2, a3, a4, a5, a6, a7⟩) (fun hHeld => ?_)
    clear hK K
    try simp only [Act.put, List.getElem_toArray, List.getElem_cons_succ, List.getElem_cons_zero, List.setIfInBounds_toArray, List.set_cons_zero, List.set_cons_succ]
    refine wpAnyH_take (i := 74) (oi := ⟨some 137, _, _, _, _, _⟩) (v := ?_) rfl (by kernel_rfl) (by kernel_rfl) (by kernel_rfl) (fun _ _ _ h => h) (Or.inl ⟨by kernel_rfl, ?_⟩) hHeld ?_
    rotate_left
    · (intro w hSw; (try dsimp only at hSw); go_simp; try with_reducible rfl)
    try simp only [Act.put, List.getElem_toArray, List.getElem_cons_succ, List.getElem_cons_zero, List.setIfInBounds_toArray, List.set_cons_zero, List.set_cons_succ]
    refine wpAnyH_ready (rs := [75]) (by kernel_rfl) (by simp) ?_
    refine (AllReadyH.cons rfl (fun K hK => ?_) AllReadyH.nil)
    try rw [if_pos (by kernel_rfl)]
    go_simp
    go_at_call 17
    refine (check_to ll16 _ _ ⟨_, _, rfl, ss_one e1, ss_one e2⟩ (by decide) (by decide)).mono ?_
    rintro e y8 ⟨rfl, kk⟩
    have n2 := n2.below kk
    have n3 := n3.below kk
    have bel := hthen bel kk
    have b1 := b1.below kk b1.lt
    have b2 := b2.below kk b2.lt
    have b4 := b4.below kk b4.lt
    have b5 := b5.below kk b5.lt
    clear kk
    try dsimp only
    refine hK.out _ _ (by have a0 := b1.cell 0; have a1 := b1.cell 1; have a2 := b1.cell 2; have a3 := b2.cell 0; have a4 := b2.cell 1; have a5 := b2.cell 2; have a6 := b4.cell 1; have a7 := b5.cell 1; simp at a0 a1 a2 a3 a4 a5 a6 a7; exact ⟨a0, a1, a2, a3, a4, a5, a6, a7⟩) (fun hHeld => ?_)
    clear hK K
    try simp only [Act.put, List.getElem_toArray, List.getElem_cons_succ, List.getElem_cons_zero, List.setIfInBounds_toArray, List.set_cons_zero, List.set_cons_succ]
    refine wpAnyH_take (i := 76) (oi := ⟨some 139, _, _, _, _, _⟩) (v := ?_) rfl (by kernel_rfl) (by kernel_rfl) (by kernel_rfl) (fun _ _ _ h => h) (Or.inl ⟨by kernel_rfl, ?_⟩) hHeld ?_
    rotate_left
    · (intro w hSw; (try dsimp only at hSw); go_simp; try with_reducible rfl)
    try simp only [Act.put, List.getElem_toArray, List.getElem_cons_succ, List.getElem_cons_zero, List.setIfInBounds_toArray, List.set_cons_zero, List.set_cons_succ]
    refine wpAnyH_take (i := 77) (oi := ⟨some 140, _, _, _, _, _⟩) (v := ?_) rfl (by kernel_rfl) (by kernel_rfl) (by kernel_rfl) (fun _ _ _ h => h) (Or.inl ⟨by kernel_rfl, ?_⟩) hHeld ?_
    rotate_left
    · (intro w hSw; (try dsimp only at hSw); go_simp; try with_reducible rfl)
    try simp only [Act.put, List.getElem_toArray, List.getElem_cons_succ, List.getElem_cons_zero, List.setIfInBounds_toArray, List.set_cons_zero, List.set_cons_succ]
    refine wpAnyH_take (i := 78) (oi := ⟨some 0, _, _, _, _, _⟩) (v := ?_) rfl (by kernel_rfl) (by kernel_rfl) (by kernel_rfl) (fun _ _ _ h => h) (Or.inl ⟨by kernel_rfl, ?_⟩) hHeld ?_
    rotate_left
    · (intro w hSw; (try dsimp only at hSw); go_simp; try with_reducible rfl)
    try simp only [Act.put, List.getElem_toArray, List.getElem_cons_succ, List.getElem_cons_zero, List.setIfInBounds_toArray, List.set_cons_zero, List.set_cons_succ]
    refine wpAnyH_done (by kernel_rfl) ?_ _
    refine NoPanic.normal ?_
    go_wp2
    go_ret
    exact ⟨rfl, bel⟩
end Go.Proofs.Ytiodeeliidhbgaa
