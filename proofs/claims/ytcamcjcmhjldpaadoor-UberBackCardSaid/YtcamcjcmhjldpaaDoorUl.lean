/- The laws of uber: live. -/
import Derived.Test.YtcamcjcmhjldpaaDoorUh
namespace Go.Proofs.YtcamcjcmhjldpaaDoor
open Go Go.RowKit
set_option linter.unusedSimpArgs false
set_option linter.unnecessarySimpa false
set_option linter.unusedVariables false

theorem write_ws (d : Dv) (l : Lc) (s : List UInt8) : (d.write l s).ws.length ≤ d.ws.length + 1 := by
  unfold Dv.write
  split <;> simp
theorem uw_ws (a b : List (List UInt8)) (p : Nat) (s : List UInt8) : ((clD a b).uw p s).ws.length ≤ 100000 := by
  have h1 := write_ws ((clD a b).write ⟨0, p⟩ s) ⟨1, p⟩ s
  have h2 := write_ws (clD a b) ⟨0, p⟩ s
  have h3 : (clD a b).ws.length = 0 := rfl
  unfold Dv.uw
  omega
theorem ubestT {S : Nat → Prop} {g : Nat} {d : Dv} {t : Int} {l : List UInt8} {b : Bool} (hbst : bestR d = (⟨t, l⟩, b)) (hn : d.ws.length ≤ 100000) (hL : ∀ k, k < 8 → (ringD d k).length ≤ 140737488351232) (w wi : World) (hR : RootsAt wi) (h : Lv w wi S g d) :
    Calls Tryd.prog 20 #[.pointer (some ⟨g, 0, none⟩)] wi fun e wj => e = .returned (.tuple #[.agg #[.int .i64 t, .string (bstr l)], .bool b]) ∧ Below wi.heap.size wi wj := by
  have := ubestL S g d hn hL w wi hR h
  rwa [hbst] at this
theorem dl1_ws : dl1.ws.length ≤ 100000 := by rw [dl1_eq]; decide
theorem dl2_ws : dl2.ws.length ≤ 100000 := by unfold dl2; rw [dl1_eq]; exact uw_ws _ _ _ _
theorem dl3_ws : dl3.ws.length ≤ 100000 := by rw [dl3_eq]; exact dl1_ws
theorem ubD_cut {s : List UInt8} (h : s.length < 42) : ubD s = (⟨0, []⟩, 2) := by unfold ubD; rw [if_pos h]; rfl
theorem write6 (S : Nat → Prop) (g : Nat) (w wi : World) (hb : Below w.heap.size w wi) (hR : RootsAt wi) (h : Lv w wi S g (Dv.new 5 5)) :
    Calls Tryd.prog 17 #[.pointer (some ⟨g, 0, none⟩), .agg #[.int .i64 6, .string ⟨#[115, 105, 120]⟩]] wi fun e wj => e = .returned (.int .i64 0) ∧ LvPost w wi S g ((Dv.new 5 5).uw 2 (ubL u6)) wj :=
  uwriteC S g bl5 bl5 (by decide) (by decide) u6 2 (by decide) e6 (by decide) w wi hb hR h
theorem write7 (S : Nat → Prop) (g : Nat) (w wi : World) (hb : Below w.heap.size w wi) (hR : RootsAt wi) (h : Lv w wi S g dl1) :
    Calls Tryd.prog 17 #[.pointer (some ⟨g, 0, none⟩), .agg #[.int .i64 7, .string ⟨#[115, 101, 118, 101, 110]⟩]] wi fun e wj => e = .returned (.int .i64 0) ∧ LvPost w wi S g dl2 wj := by
  unfold dl2
  rw [dl1_eq] at h ⊢
  exact uwriteC S g _ _ (by simp [bl5]) (by simp [bl5]) u7 3 (by decide) e7 (by decide) w wi hb hR h

set_option maxRecDepth 100000 in
set_option maxHeartbeats 8000000 in
theorem live_ok (w : World) (hR : RootsAt w) : Calls Tryd.prog 8 #[] w fun e w' => e = .returned (.bool true) ∧ Below w.heap.size w w' := by
  have HRW := Lib.hid hR
  have bel : Below w.heap.size w w := Below.refl _ _
  obtain ⟨T, hT⟩ : ∃ T, ubL u1 = T := ⟨_, rfl⟩
  have lT : T.length = 42 := by rw [← hT, ubL_len e1u]; rfl
  have szT : (bstr T).size = 42 := by rw [← lT]; simp [bstr, ByteArray.size]
  have HT := Lib.hid hT
  clear hT
  go_enter Tryd.func8, Tryd.ntmps8
  go_wp2_with fail
  refine (newL 5 5 (by decide) (by decide) (by decide) (by decide) w w bel).mono ?_
  rintro e w1 ⟨g, S1, rfl, lv, hS0, k0⟩
  have hR := hR.moved k0
  have bel := hthen bel k0
  clear k0
  clear hS0
  go_wp2_with fail
  refine (ubestT (S := S1) best0 (by decide) len0 w _ hR lv).mono ?_
  rintro e w2 ⟨rfl, k2⟩
  have hR := hR.moved k2
  have lv := lv.below k2
  have bel := hthen bel k2
  clear k2
  go_wp2_with fail
  obtain ⟨w3, hw3⟩ : ∃ x, w2.alloc (.cells #[.int .i64 0, .string (bstr [])] 28) = x := ⟨_, rfl⟩
  obtain ⟨iq0, hiq0⟩ : ∃ i, w2.heap.size = i := ⟨_, rfl⟩
  have q0 : Blk w3 iq0 28 #[.int .i64 0, .string (bstr [])] := by rw [← hw3, ← hiq0]; exact Blk.new _ _ _
  have k3 : Below w2.heap.size w2 w3 := by rw [← hw3]; exact (Below.refl _ _).alloc (Nat.le_refl _) _
  have zq0 : w3.heap.size = iq0 + 1 := by rw [← hw3, ← hiq0]; simp
  rw [hw3, hiq0]
  have nSq0 : ¬ S1 iq0 := fun e => by have := lv.o.lt _ e; omega
  have hR := hR.moved k3
  have lv := lv.below k3
  have bel := hthen bel k3
  clear k3
  clear hw3 hiq0
  have q0c0 := q0.cell 0
  have q0c1 := q0.cell 1
  simp at q0c0 q0c1
  have q0lt := q0.lt
  try (go_wp2_with fail)
  refine (write6 S1 g w _ bel hR lv).mono ?_
  rintro e w4 ⟨rfl, S4, lv, gS, kS, bel⟩
  clear q0c0 q0c1 q0lt
  have mSq0 : ¬ S4 iq0 := fun e => (gS _ e).elim nSq0 (fun e => by have := q0.lt; omega)
  have q0 := q0.keep kS q0.lt nSq0
  have nSq0 := mSq0
  clear mSq0
  have hR := HRW.out.moved bel
  clear gS kS
  have q0c0 := q0.cell 0
  have q0c1 := q0.cell 1
  simp at q0c0 q0c1
  have q0lt := q0.lt
  go_wp2_with fail
  refine (flushL S4 g _ (uw_ws bl5 bl5 2 (ubL u6)) w _ bel lv).mono ?_
  rintro e w5 ⟨rfl, S5, lv, gS, kS, bel⟩
  clear q0c0 q0c1 q0lt
  have mSq0 : ¬ S5 iq0 := fun e => (gS _ e).elim nSq0 (fun e => by have := q0.lt; omega)
  have q0 := q0.keep kS q0.lt nSq0
  have nSq0 := mSq0
  clear mSq0
  have hR := HRW.out.moved bel
  clear gS kS
  have lv : Lv w _ _ g dl1 := lv
  have q0c0 := q0.cell 0
  have q0c1 := q0.cell 1
  simp at q0c0 q0c1
  have q0lt := q0.lt
  go_wp2_with fail
  refine (write7 S5 g w _ bel hR lv).mono ?_
  rintro e w6 ⟨rfl, S6, lv, gS, kS, bel⟩
  clear q0c0 q0c1 q0lt
  have mSq0 : ¬ S6 iq0 := fun e => (gS _ e).elim nSq0 (fun e => by have := q0.lt; omega)
  have q0 := q0.keep kS q0.lt nSq0
  have nSq0 := mSq0
  clear mSq0
  have hR := HRW.out.moved bel
  clear gS kS
  have q0c0 := q0.cell 0
  have q0c1 := q0.cell 1
  simp at q0c0 q0c1
  have q0lt := q0.lt
  go_wp2_with fail
  refine (ubestT (S := S6) best2 dl2_ws len2 w _ hR lv).mono ?_
  rintro e w7 ⟨rfl, k7⟩
  clear q0c0 q0c1 q0lt
  have q0 := q0.below k7 q0.lt
  have hR := hR.moved k7
  have lv := lv.below k7
  have bel := hthen bel k7
  clear k7
  have q0c0 := q0.cell 0
  have q0c1 := q0.cell 1
  simp at q0c0 q0c1
  have q0lt := q0.lt
  go_wp2_with fail
  clear q0c0 q0c1 q0lt
  obtain ⟨w8, hw8⟩ : ∃ x, w7.alloc (.cells #[.int .i64 7, .string (bstr [115, 101, 118, 101, 110])] 28) = x := ⟨_, rfl⟩
  obtain ⟨iq1, hiq1⟩ : ∃ i, w7.heap.size = i := ⟨_, rfl⟩
  have q1 : Blk w8 iq1 28 #[.int .i64 7, .string (bstr [115, 101, 118, 101, 110])] := by rw [← hw8, ← hiq1]; exact Blk.new _ _ _
  have k8 : Below w7.heap.size w7 w8 := by rw [← hw8]; exact (Below.refl _ _).alloc (Nat.le_refl _) _
  have zq1 : w8.heap.size = iq1 + 1 := by rw [← hw8, ← hiq1]; simp
  rw [hw8, hiq1]
  have nSq1 : ¬ S6 iq1 := fun e => by have := lv.o.lt _ e; omega
  have q0 := q0.below k8 q0.lt
  have hR := hR.moved k8
  have lv := lv.below k8
  have bel := hthen bel k8
  clear k8
  clear hw8 hiq1
  have q0c0 := q0.cell 0
  have q0c1 := q0.cell 1
  simp at q0c0 q0c1
  have q0lt := q0.lt
  have q1c0 := q1.cell 0
  have q1c1 := q1.cell 1
  simp at q1c0 q1c1
  have q1lt := q1.lt
  try (go_wp2_with fail)
  refine (crashL S6 g dl2 none 0 0 [] rfl dl2_ws w _ (fun i hi => absurd hi (Nat.not_lt_zero _)) bel lv).mono ?_
  rintro e w9 ⟨rfl, S9, lv, gS, kS, bel⟩
  clear q0c0 q0c1 q0lt q1c0 q1c1 q1lt
  have mSq0 : ¬ S9 iq0 := fun e => (gS _ e).elim nSq0 (fun e => by have := q0.lt; omega)
  have q0 := q0.keep kS q0.lt nSq0
  have nSq0 := mSq0
  clear mSq0
  have mSq1 : ¬ S9 iq1 := fun e => (gS _ e).elim nSq1 (fun e => by have := q1.lt; omega)
  have q1 := q1.keep kS q1.lt nSq1
  have nSq1 := mSq1
  clear mSq1
  have hR := HRW.out.moved bel
  clear gS kS
  have lv : Lv w _ _ g dl3 := lv
  have q0c0 := q0.cell 0
  have q0c1 := q0.cell 1
  simp at q0c0 q0c1
  have q0lt := q0.lt
  have q1c0 := q1.cell 0
  have q1c1 := q1.cell 1
  simp at q1c0 q1c1
  have q1lt := q1.lt
  go_wp2_with fail
  refine (ubestT (S := S9) best3 dl3_ws len3 w _ hR lv).mono ?_
  rintro e w10 ⟨rfl, k10⟩
  clear q0c0 q0c1 q0lt q1c0 q1c1 q1lt
  have q0 := q0.below k10 q0.lt
  have q1 := q1.below k10 q1.lt
  have hR := hR.moved k10
  have lv := lv.below k10
  have bel := hthen bel k10
  clear k10
  have q0c0 := q0.cell 0
  have q0c1 := q0.cell 1
  simp at q0c0 q0c1
  have q0lt := q0.lt
  have q1c0 := q1.cell 0
  have q1c1 := q1.cell 1
  simp at q1c0 q1c1
  have q1lt := q1.lt
  go_wp2_with fail
  clear q0c0 q0c1 q0lt q1c0 q1c1 q1lt
  obtain ⟨w11, hw11⟩ : ∃ x, w10.alloc (.cells #[.int .i64 6, .string (bstr [115, 105, 120])] 28) = x := ⟨_, rfl⟩
  obtain ⟨iq2, hiq2⟩ : ∃ i, w10.heap.size = i := ⟨_, rfl⟩
  have q2 : Blk w11 iq2 28 #[.int .i64 6, .string (bstr [115, 105, 120])] := by rw [← hw11, ← hiq2]; exact Blk.new _ _ _
  have k11 : Below w10.heap.size w10 w11 := by rw [← hw11]; exact (Below.refl _ _).alloc (Nat.le_refl _) _
  have zq2 : w11.heap.size = iq2 + 1 := by rw [← hw11, ← hiq2]; simp
  rw [hw11, hiq2]
  have nSq2 : ¬ S9 iq2 := fun e => by have := lv.o.lt _ e; omega
  have q0 := q0.below k11 q0.lt
  have q1 := q1.below k11 q1.lt
  have hR := hR.moved k11
  have lv := lv.below k11
  have bel := hthen bel k11
  clear k11
  clear hw11 hiq2
  have q0c0 := q0.cell 0
  have q0c1 := q0.cell 1
  simp at q0c0 q0c1
  have q0lt := q0.lt
  have q1c0 := q1.cell 0
  have q1c1 := q1.cell 1
  simp at q1c0 q1c1
  have q1lt := q1.lt
  have q2c0 := q2.cell 0
  have q2c1 := q2.cell 1
  simp at q2c0 q2c1
  have q2lt := q2.lt
  try (go_wp2_with fail)
  refine (uenc_to (u := u1) HT.out e1u (by decide) _ hR).mono ?_
  rintro e w12 ⟨rfl, k12⟩
  clear q0c0 q0c1 q0lt q1c0 q1c1 q1lt q2c0 q2c1 q2lt
  have q0 := q0.below k12 q0.lt
  have q1 := q1.below k12 q1.lt
  have q2 := q2.below k12 q2.lt
  have hR := hR.moved k12
  have lv := lv.below k12
  have bel := hthen bel k12
  clear k12
  have q0c0 := q0.cell 0
  have q0c1 := q0.cell 1
  simp at q0c0 q0c1
  have q0lt := q0.lt
  have q1c0 := q1.cell 0
  have q1c1 := q1.cell 1
  simp at q1c0 q1c1
  have q1lt := q1.lt
  have q2c0 := q2.cell 0
  have q2c1 := q2.cell 1
  simp at q2c0 q2c1
  have q2lt := q2.lt
  go_wp2_with fail
  have hcut : (List.take (max (41 : Int) 0).toNat T).length < 42 := by rw [List.length_take, show (max (41 : Int) 0).toNat = 41 from rfl]; omega
  refine (udec_to (ubD_cut hcut) (by omega) _ hR).mono ?_
  rintro e w13 ⟨rfl, k13⟩
  clear q0c0 q0c1 q0lt q1c0 q1c1 q1lt q2c0 q2c1 q2lt
  have q0 := q0.below k13 q0.lt
  have q1 := q1.below k13 q1.lt
  have q2 := q2.below k13 q2.lt
  have hR := hR.moved k13
  have lv := lv.below k13
  have bel := hthen bel k13
  clear k13
  have q0c0 := q0.cell 0
  have q0c1 := q0.cell 1
  simp at q0c0 q0c1
  have q0lt := q0.lt
  have q1c0 := q1.cell 0
  have q1c1 := q1.cell 1
  simp at q1c0 q1c1
  have q1lt := q1.lt
  have q2c0 := q2.cell 0
  have q2c1 := q2.cell 1
  simp at q2c0 q2c1
  have q2lt := q2.lt
  go_wp2_with fail
  clear q0c0 q0c1 q0lt q1c0 q1c1 q1lt q2c0 q2c1 q2lt
  obtain ⟨w14, hw14⟩ : ∃ x, w13.alloc (.cells #[.int .i64 0, .string (bstr [])] 28) = x := ⟨_, rfl⟩
  obtain ⟨iq3, hiq3⟩ : ∃ i, w13.heap.size = i := ⟨_, rfl⟩
  have q3 : Blk w14 iq3 28 #[.int .i64 0, .string (bstr [])] := by rw [← hw14, ← hiq3]; exact Blk.new _ _ _
  have k14 : Below w13.heap.size w13 w14 := by rw [← hw14]; exact (Below.refl _ _).alloc (Nat.le_refl _) _
  have zq3 : w14.heap.size = iq3 + 1 := by rw [← hw14, ← hiq3]; simp
  rw [hw14, hiq3]
  have nSq3 : ¬ S9 iq3 := fun e => by have := lv.o.lt _ e; omega
  have q0 := q0.below k14 q0.lt
  have q1 := q1.below k14 q1.lt
  have q2 := q2.below k14 q2.lt
  have hR := hR.moved k14
  have lv := lv.below k14
  have bel := hthen bel k14
  clear k14
  clear hw14 hiq3
  have q0c0 := q0.cell 0
  have q0c1 := q0.cell 1
  simp at q0c0 q0c1
  have q0lt := q0.lt
  have q1c0 := q1.cell 0
  have q1c1 := q1.cell 1
  simp at q1c0 q1c1
  have q1lt := q1.lt
  have q2c0 := q2.cell 0
  have q2c1 := q2.cell 1
  simp at q2c0 q2c1
  have q2lt := q2.lt
  have q3c0 := q3.cell 0
  have q3c1 := q3.cell 1
  simp at q3c0 q3c1
  have q3lt := q3.lt
  try (go_wp2_with fail)
  refine (udec_to (s := [115, 104, 111, 114, 116]) (ubD_cut (by decide)) (by decide) _ hR).mono ?_
  rintro e w15 ⟨rfl, k15⟩
  clear q0c0 q0c1 q0lt q1c0 q1c1 q1lt q2c0 q2c1 q2lt q3c0 q3c1 q3lt
  have q0 := q0.below k15 q0.lt
  have q1 := q1.below k15 q1.lt
  have q2 := q2.below k15 q2.lt
  have q3 := q3.below k15 q3.lt
  have hR := hR.moved k15
  have lv := lv.below k15
  have bel := hthen bel k15
  clear k15
  have q0c0 := q0.cell 0
  have q0c1 := q0.cell 1
  simp at q0c0 q0c1
  have q0lt := q0.lt
  have q1c0 := q1.cell 0
  have q1c1 := q1.cell 1
  simp at q1c0 q1c1
  have q1lt := q1.lt
  have q2c0 := q2.cell 0
  have q2c1 := q2.cell 1
  simp at q2c0 q2c1
  have q2lt := q2.lt
  have q3c0 := q3.cell 0
  have q3c1 := q3.cell 1
  simp at q3c0 q3c1
  have q3lt := q3.lt
  go_wp2_with fail
  clear q0c0 q0c1 q0lt q1c0 q1c1 q1lt q2c0 q2c1 q2lt q3c0 q3c1 q3lt
  obtain ⟨w16, hw16⟩ : ∃ x, w15.alloc (.cells #[.int .i64 0, .string (bstr [])] 28) = x := ⟨_, rfl⟩
  obtain ⟨iq4, hiq4⟩ : ∃ i, w15.heap.size = i := ⟨_, rfl⟩
  have q4 : Blk w16 iq4 28 #[.int .i64 0, .string (bstr [])] := by rw [← hw16, ← hiq4]; exact Blk.new _ _ _
  have k16 : Below w15.heap.size w15 w16 := by rw [← hw16]; exact (Below.refl _ _).alloc (Nat.le_refl _) _
  have zq4 : w16.heap.size = iq4 + 1 := by rw [← hw16, ← hiq4]; simp
  rw [hw16, hiq4]
  have nSq4 : ¬ S9 iq4 := fun e => by have := lv.o.lt _ e; omega
  have q0 := q0.below k16 q0.lt
  have q1 := q1.below k16 q1.lt
  have q2 := q2.below k16 q2.lt
  have q3 := q3.below k16 q3.lt
  have hR := hR.moved k16
  have lv := lv.below k16
  have bel := hthen bel k16
  clear k16
  clear hw16 hiq4
  have q0c0 := q0.cell 0
  have q0c1 := q0.cell 1
  simp at q0c0 q0c1
  have q0lt := q0.lt
  have q1c0 := q1.cell 0
  have q1c1 := q1.cell 1
  simp at q1c0 q1c1
  have q1lt := q1.lt
  have q2c0 := q2.cell 0
  have q2c1 := q2.cell 1
  simp at q2c0 q2c1
  have q2lt := q2.lt
  have q3c0 := q3.cell 0
  have q3c1 := q3.cell 1
  simp at q3c0 q3c1
  have q3lt := q3.lt
  have q4c0 := q4.cell 0
  have q4c1 := q4.cell 1
  simp at q4c0 q4c1
  have q4lt := q4.lt
  try (go_wp2_with fail)
  refine (uwrite_bad (some ⟨g, 0, none⟩) ⟨-1, []⟩ (by decide) (by decide) _ hR).mono ?_
  rintro e w17 ⟨rfl, k17⟩
  clear q0c0 q0c1 q0lt q1c0 q1c1 q1lt q2c0 q2c1 q2lt q3c0 q3c1 q3lt q4c0 q4c1 q4lt
  have q0 := q0.below k17 q0.lt
  have q1 := q1.below k17 q1.lt
  have q2 := q2.below k17 q2.lt
  have q3 := q3.below k17 q3.lt
  have q4 := q4.below k17 q4.lt
  have hR := hR.moved k17
  have lv := lv.below k17
  have bel := hthen bel k17
  clear k17
  have q0c0 := q0.cell 0
  have q0c1 := q0.cell 1
  simp at q0c0 q0c1
  have q0lt := q0.lt
  have q1c0 := q1.cell 0
  have q1c1 := q1.cell 1
  simp at q1c0 q1c1
  have q1lt := q1.lt
  have q2c0 := q2.cell 0
  have q2c1 := q2.cell 1
  simp at q2c0 q2c1
  have q2lt := q2.lt
  have q3c0 := q3.cell 0
  have q3c1 := q3.cell 1
  simp at q3c0 q3c1
  have q3lt := q3.lt
  have q4c0 := q4.cell 0
  have q4c1 := q4.cell 1
  simp at q4c0 q4c1
  have q4lt := q4.lt
  go_wp2_with fail
  refine (uwrite_nil u7 e7 _ hR).mono ?_
  rintro e w18 ⟨rfl, k18⟩
  clear q0c0 q0c1 q0lt q1c0 q1c1 q1lt q2c0 q2c1 q2lt q3c0 q3c1 q3lt q4c0 q4c1 q4lt
  have q0 := q0.below k18 q0.lt
  have q1 := q1.below k18 q1.lt
  have q2 := q2.below k18 q2.lt
  have q3 := q3.below k18 q3.lt
  have q4 := q4.below k18 q4.lt
  have hR := hR.moved k18
  have lv := lv.below k18
  have bel := hthen bel k18
  clear k18
  go_wp2
  go_ret
  exact ⟨rfl, bel⟩
end Go.Proofs.YtcamcjcmhjldpaaDoor
