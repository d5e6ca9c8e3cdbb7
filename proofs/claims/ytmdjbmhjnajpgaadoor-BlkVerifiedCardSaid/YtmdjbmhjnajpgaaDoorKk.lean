/- The walks of BlkMends, BlkAgain. -/
import Derived.Test.YtmdjbmhjnajpgaaDoorKj
namespace Go.Proofs.YtmdjbmhjnajpgaaDoor
open Go Go.RowKit
set_option linter.unusedSimpArgs false
set_option linter.unnecessarySimpa false
set_option linter.unusedVariables false

theorem PtOn.cells2 {S : Nat → Prop} {w : World} {A : Option Addr} {c : Nat} {a b : Lc} (h : PtOn S w (.slice A 2 c) [a, b]) : ∃ ad, A = some ad ∧ w.cell? ad = some (.int .i64 a.dev) ∧ w.cell? ⟨ad.block, ad.off + 1, none⟩ = some (.int .i64 a.pos) ∧ w.cell? ⟨ad.block, ad.off + 2, none⟩ = some (.int .i64 b.dev) ∧ w.cell? ⟨ad.block, ad.off + 3, none⟩ = some (.int .i64 b.pos) := by
  obtain ⟨A', c', e, _, _, hx⟩ := h
  cases e
  obtain ⟨ad, rfl, _, hc⟩ := hx (by simp)
  obtain ⟨c0, c1⟩ := hc 0 (by simp)
  obtain ⟨c2, c3⟩ := hc 1 (by simp)
  exact ⟨ad, rfl, c0, c1, c2, c3⟩
set_option maxRecDepth 100000 in
set_option maxHeartbeats 8000000 in
theorem blkMends_walk (w : World) (hR : RootsAt w) (a0 : List UInt8) (h0 : a0.length ≤ 140737488351232) (a1 : Int) (h1 : (Lit.int .i64 a1).wf = true) (a2 : List UInt8) (h2 : a2.length ≤ 140737488351232) :
    Calls Tryd.prog 5 #[.string (bstr a0), .int .i64 a1, .string (bstr a2)] w fun e w' => e = .returned (.bool true) ∧ Below w.heap.size w w' := by
  have HRW := Lib.hid hR
  have bel : Below w.heap.size w w := Below.refl _ _
  have sz0 : (bstr a0).size = a0.length := by simp [bstr, ByteArray.size]
  have sz2 : (bstr a2).size = a2.length := by simp [bstr, ByteArray.size]
  by_cases g1 : 960 < a0.length
  · have qg1 : decide ((a0.length : Int) > 960) = true := decide_eq_true (by omega)
    go_enter Tryd.func5, Tryd.ntmps5
    go_wp2_with fail
    refine (live_ok _ hR).mono ?_
    rintro e w1 ⟨rfl, k1⟩
    have hR := hR.moved k1
    have bel := hthen bel k1
    clear k1
    go_wp2
    go_ret
    exact ⟨rfl, bel⟩
  have qg1 : decide ((a0.length : Int) > 960) = false := decide_eq_false (by omega)
  by_cases g2 : a1 < 0
  · have qg2 : decide (a1 < 0) = true := decide_eq_true (by omega)
    go_enter Tryd.func5, Tryd.ntmps5
    go_wp2_with fail
    refine (live_ok _ hR).mono ?_
    rintro e w1 ⟨rfl, k1⟩
    have hR := hR.moved k1
    have bel := hthen bel k1
    clear k1
    go_wp2
    go_ret
    exact ⟨rfl, bel⟩
  have qg2 : decide (a1 < 0) = false := decide_eq_false (by omega)
  by_cases g3 : 1 < a1
  · have qg3 : decide (a1 > 1) = true := decide_eq_true (by omega)
    go_enter Tryd.func5, Tryd.ntmps5
    go_wp2_with fail
    refine (live_ok _ hR).mono ?_
    rintro e w1 ⟨rfl, k1⟩
    have hR := hR.moved k1
    have bel := hthen bel k1
    clear k1
    go_wp2
    go_ret
    exact ⟨rfl, bel⟩
  have qg3 : decide (a1 > 1) = false := decide_eq_false (by omega)
  by_cases g4 : 960 < a2.length
  · have qg4 : decide ((a2.length : Int) > 960) = true := decide_eq_true (by omega)
    go_enter Tryd.func5, Tryd.ntmps5
    go_wp2_with fail
    refine (live_ok _ hR).mono ?_
    rintro e w1 ⟨rfl, k1⟩
    have hR := hR.moved k1
    have bel := hthen bel k1
    clear k1
    go_wp2
    go_ret
    exact ⟨rfl, bel⟩
  have qg4 : decide ((a2.length : Int) > 960) = false := decide_eq_false (by omega)
  by_cases g5 : a2.length = a0.length
  · have qg5 : ((a2.length : Int) == (a0.length : Int)) = true := by simp [g5]
    go_enter Tryd.func5, Tryd.ntmps5
    go_wp2_with fail
    refine (live_ok _ hR).mono ?_
    rintro e w1 ⟨rfl, k1⟩
    have hR := hR.moved k1
    have bel := hthen bel k1
    clear k1
    go_wp2
    go_ret
    exact ⟨rfl, bel⟩
  have qg5 : ((a2.length : Int) == (a0.length : Int)) = false := beq_eq_false_iff_ne.2 (by omega)
  obtain ⟨SH, hSH⟩ : ∃ x, shaL a0 = x := ⟨_, rfl⟩
  have hp : P2 7 9 a0 3 = ⟨[⟨0, 7⟩, ⟨1, 9⟩], (a0.length : Int), 3, SH⟩ := by unfold P2; rw [hSH]; rfl
  have hck : ckE (P2 7 9 a0 3) = 0 := P2_ok (by decide) (by decide) (by omega) (by decide) (by decide)
  have h1024 : a0.length ≤ 1024 := by omega
  have HPF := Lib.hid (show (⟨[⟨0, 7⟩, ⟨1, 9⟩], (a0.length : Int), 3, SH⟩ : Pt) = ⟨[⟨0, 7⟩, ⟨1, 9⟩], a0.length, 3, shaL a0⟩ by rw [hSH])
  have HCK := Lib.hid (hp ▸ hck)
  have HSZ := Lib.hid (hp ▸ two_sizes (p := 7) (q := 9) (load := a0) (b := 3) (by decide) (by decide))
  have HNG := Lib.hid (hp ▸ two_gone (p := 7) (q := 9) (load := a0) (b := 3))
  have HWR := Lib.hid (hp ▸ two_written (p := 7) (q := 9) (load := a0) (b := 3) (by decide) (by decide) h1024)
  have j1024 : a2.length ≤ 1024 := by omega
  have rl : (a0 == a0) = true := by simp
  rcases (show a1 = 0 ∨ a1 = 1 by omega) with rfl | rfl
  · have J10 : Hid (a2.length ≤ 1024) := Lib.hid j1024
    have HR1 := Lib.hid (hp ▸ sp0_read (p := 7) (q := 9) (load := a0) (junk := a2) (b := 3) hck (by decide) (by decide) g5)
    have HM1 := Lib.hid (hp ▸ sp0_mend (p := 7) (q := 9) (load := a0) (junk := a2) (b := 3) (by decide) (by decide) h1024 g5)
    have HLO := Lib.hid (sp0_lost (p := 7) (q := 9) (load := a0) (junk := a2) (by decide))
    have HR3 := Lib.hid (hp ▸ sp0_read3 (p := 7) (q := 9) (load := a0) (junk := a2) (b := 3) hck (by decide))
    clear hp hck h1024 j1024 hSH g1 g2 g3 g4 g5 h0 h2 h1
    go_enter Tryd.func5, Tryd.ntmps5
    go_wp2_with fail
    refine (newL 20 20 (by decide) (by decide) (by decide) (by decide) w w bel).mono ?_
    rintro e w1 ⟨g, S1, rfl, lv, hS0, k0⟩
    have hR := hR.moved k0
    have bel := hthen bel k0
    clear k0
    clear hS0
    go_wp2_with fail
    obtain ⟨w2, hw2⟩ : ∃ x, w1.alloc (.cells #[.int .i64 0, .int .i64 7, .int .i64 1, .int .i64 9] 33) = x := ⟨_, rfl⟩
    obtain ⟨ill, hill⟩ : ∃ i, w1.heap.size = i := ⟨_, rfl⟩
    have ll : Blk w2 ill 33 #[.int .i64 0, .int .i64 7, .int .i64 1, .int .i64 9] := by rw [← hw2, ← hill]; exact Blk.new _ _ _
    have k2 : Below w1.heap.size w1 w2 := by rw [← hw2]; exact (Below.refl _ _).alloc (Nat.le_refl _) _
    have zll : w2.heap.size = ill + 1 := by rw [← hw2, ← hill]; simp
    rw [hw2, hill]
    have nSll : ¬ S1 ill := fun e => by have := lv.o.lt _ e; omega
    have hR := hR.moved k2
    have lv := lv.below k2
    have bel := hthen bel k2
    clear k2
    clear hw2 hill
    have plll : PtOn S1 w2 (.slice (some ⟨ill, 0, none⟩) 2 2) [⟨0, 7⟩, ⟨1, 9⟩] := lit2 ll nSll
    refine (bwr_ok (p := ⟨[⟨0, 7⟩, ⟨1, 9⟩], (a0.length : Int), 3, SH⟩) (load := a0) (birth := 3) HPF.out HCK.out HSZ.out HNG.out HWR.out (by decide) S1 g _ w _ bel hR plll lv).mono ?_
    rintro e w3 ⟨u, S3, rfl, lv, gS, kS, bel, ln⟩
    have mSll : ¬ S3 ill := fun e => (gS _ e).elim nSll (fun e => by have := ll.lt; omega)
    have ll := ll.keep kS ll.lt nSll
    have nSll := mSll
    clear mSll
    have hR := HRW.out.moved bel
    clear gS kS
    obtain ⟨A, c, rfl, -, -⟩ := ln.at_.form
    go_upto_region 7 with fail
    have ln : PtOn _ _ (.slice A 2 c) [⟨0, 7⟩, ⟨1, 9⟩] := ln
    have lv : Lv w _ _ g (D2 7 9 [] [] false false [⟨⟨0, 7⟩, a0⟩, ⟨⟨1, 9⟩, a0⟩]) := lv
    obtain ⟨w4, hw4⟩ : ∃ x, w3.alloc (.cells #[.slice A 2 c, .int .i64 a0.length, .int .i64 3, .string (bstr SH)] 25) = x := ⟨_, rfl⟩
    obtain ⟨ib0, hib0⟩ : ∃ i, w3.heap.size = i := ⟨_, rfl⟩
    have b0 : Blk w4 ib0 25 #[.slice A 2 c, .int .i64 a0.length, .int .i64 3, .string (bstr SH)] := by rw [← hw4, ← hib0]; exact Blk.new _ _ _
    have k4 : Below w3.heap.size w3 w4 := by rw [← hw4]; exact (Below.refl _ _).alloc (Nat.le_refl _) _
    have zb0 : w4.heap.size = ib0 + 1 := by rw [← hw4, ← hib0]; simp
    rw [hw4, hib0]
    have nSb0 : ¬ S3 ib0 := fun e => by have := lv.o.lt _ e; omega
    have hR := hR.moved k4
    have lv := lv.below k4
    have ln := ln.below k4
    have bel := hthen bel k4
    clear k4
    clear hw4 hib0
    have b0c0 := b0.cell 0
    have b0c1 := b0.cell 1
    have b0c2 := b0.cell 2
    have b0c3 := b0.cell 3
    simp at b0c0 b0c1 b0c2 b0c3
    have b0lt := b0.lt
    go_wp2_with fail
    refine (flushL S3 g _ (by simp [D2]) w _ bel lv).mono ?_
    rintro e w5 ⟨rfl, S5, lv, gS, kS, bel⟩
    clear b0c0 b0c1 b0c2 b0c3 b0lt
    have mSb0 : ¬ S5 ib0 := fun e => (gS _ e).elim nSb0 (fun e => by have := b0.lt; omega)
    have b0 := b0.keep kS b0.lt nSb0
    have nSb0 := mSb0
    clear mSb0
    have hR := HRW.out.moved bel
    have ln := ln.post gS kS
    clear gS kS
    rw [show (D2 7 9 [] [] false false [⟨⟨0, 7⟩, a0⟩, ⟨⟨1, 9⟩, a0⟩]).flush = D2 7 9 a0 a0 false false [] from flush2 (p := 7) (q := 9)] at lv
    obtain ⟨ad, rfl, cc0, cc1, cc2, cc3⟩ := ln.cells2
    have b0c0 := b0.cell 0
    have b0c1 := b0.cell 1
    have b0c2 := b0.cell 2
    have b0c3 := b0.cell 3
    simp at b0c0 b0c1 b0c2 b0c3
    have b0lt := b0.lt
    go_wp2_with fail
    clear cc0 cc1 cc2 cc3
    refine (spoilL (e0 := 0) S5 g (D2 7 9 a0 a0 false false []) ⟨0, 7⟩ a2 (may0 (p := 7) (q := 9) (by decide) J10.out) (by simp [D2]) w _ bel lv).mono ?_
    rintro e w6 ⟨rfl, S6, lv, gS, kS, bel⟩
    clear b0c0 b0c1 b0c2 b0c3 b0lt
    have mSb0 : ¬ S6 ib0 := fun e => (gS _ e).elim nSb0 (fun e => by have := b0.lt; omega)
    have b0 := b0.keep kS b0.lt nSb0
    have nSb0 := mSb0
    clear mSb0
    have hR := HRW.out.moved bel
    have ln := ln.post gS kS
    clear gS kS
    rw [show (D2 7 9 a0 a0 false false []).spoilAt ⟨0, 7⟩ a2 = D2 7 9 a2 a0 false false [] from spoil0 (p := 7) (q := 9) (by decide) J10.out] at lv
    have b0c0 := b0.cell 0
    have b0c1 := b0.cell 1
    have b0c2 := b0.cell 2
    have b0c3 := b0.cell 3
    simp at b0c0 b0c1 b0c2 b0c3
    have b0lt := b0.lt
    go_wp2_with fail
    refine (bread_to (p := ⟨[⟨0, 7⟩, ⟨1, 9⟩], (a0.length : Int), 3, SH⟩) HR1.out _ hR ln.at_ (lv.rd (by simp [D2]))).mono ?_
    rintro e w7 ⟨rfl, k7⟩
    clear b0c0 b0c1 b0c2 b0c3 b0lt
    have b0 := b0.below k7 b0.lt
    have hR := hR.moved k7
    have lv := lv.below k7
    have ln := ln.below k7
    have bel := hthen bel k7
    clear k7
    have b0c0 := b0.cell 0
    have b0c1 := b0.cell 1
    have b0c2 := b0.cell 2
    have b0c3 := b0.cell 3
    simp at b0c0 b0c1 b0c2 b0c3
    have b0lt := b0.lt
    go_wp2_with fail
    refine (mend_to (p := ⟨[⟨0, 7⟩, ⟨1, 9⟩], (a0.length : Int), 3, SH⟩) HR1.out HM1.out (by simp [D2]) S6 g _ w _ bel hR ln lv).mono ?_
    rintro e w8 ⟨rfl, S8, lv, gS, kS, bel⟩
    clear b0c0 b0c1 b0c2 b0c3 b0lt
    have mSb0 : ¬ S8 ib0 := fun e => (gS _ e).elim nSb0 (fun e => by have := b0.lt; omega)
    have b0 := b0.keep kS b0.lt nSb0
    have nSb0 := mSb0
    clear mSb0
    have hR := HRW.out.moved bel
    have ln := ln.post gS kS
    clear gS kS
    have cz := ln.cells2
    obtain ⟨ad2, e2, cc0, cc1, cc2, cc3⟩ := cz
    cases e2
    have b0c0 := b0.cell 0
    have b0c1 := b0.cell 1
    have b0c2 := b0.cell 2
    have b0c3 := b0.cell 3
    simp at b0c0 b0c1 b0c2 b0c3
    have b0lt := b0.lt
    go_wp2_with fail
    clear cc0 cc1 cc2 cc3
    refine (loseL (e0 := 0) S8 g _ 1 rfl (by simp [D2]) w _ bel lv).mono ?_
    rintro e w9 ⟨rfl, S9, lv, gS, kS, bel⟩
    clear b0c0 b0c1 b0c2 b0c3 b0lt
    have mSb0 : ¬ S9 ib0 := fun e => (gS _ e).elim nSb0 (fun e => by have := b0.lt; omega)
    have b0 := b0.keep kS b0.lt nSb0
    have nSb0 := mSb0
    clear mSb0
    have hR := HRW.out.moved bel
    have ln := ln.post gS kS
    clear gS kS
    have lv := HLO.out ▸ lv
    have b0c0 := b0.cell 0
    have b0c1 := b0.cell 1
    have b0c2 := b0.cell 2
    have b0c3 := b0.cell 3
    simp at b0c0 b0c1 b0c2 b0c3
    have b0lt := b0.lt
    go_wp2_with fail
    refine (bread_to (p := ⟨[⟨0, 7⟩, ⟨1, 9⟩], (a0.length : Int), 3, SH⟩) HR3.out _ hR ln.at_ (lv.rd (by simp [D2]))).mono ?_
    rintro e w10 ⟨rfl, k10⟩
    clear b0c0 b0c1 b0c2 b0c3 b0lt
    have b0 := b0.below k10 b0.lt
    have hR := hR.moved k10
    have lv := lv.below k10
    have ln := ln.below k10
    have bel := hthen bel k10
    clear k10
    clear qg1 qg2 qg3 qg4 qg5 sz0 sz2
    have hmin : min (0 : Int) 1 = 0 := by decide
    have b0c0 := b0.cell 0
    have b0c1 := b0.cell 1
    have b0c2 := b0.cell 2
    have b0c3 := b0.cell 3
    simp at b0c0 b0c1 b0c2 b0c3
    have b0lt := b0.lt
    go_wp2_with fail
    refine (live_ok _ hR).mono ?_
    rintro e w11 ⟨rfl, k11⟩
    clear b0c0 b0c1 b0c2 b0c3 b0lt
    have b0 := b0.below k11 b0.lt
    have hR := hR.moved k11
    have lv := lv.below k11
    have ln := ln.below k11
    have bel := hthen bel k11
    clear k11
    go_wp2
    go_ret
    exact ⟨rfl, bel⟩
  · have J10 : Hid (a2.length ≤ 1024) := Lib.hid j1024
    have HR1 := Lib.hid (hp ▸ sp1_read (p := 7) (q := 9) (load := a0) (junk := a2) (b := 3) hck (by decide))
    have HM1 := Lib.hid (hp ▸ sp1_mend (p := 7) (q := 9) (load := a0) (junk := a2) (b := 3) (by decide) (by decide) h1024 g5)
    have HLO := Lib.hid (sp1_lost (p := 7) (q := 9) (load := a0) (junk := a2) (by decide))
    have HR3 := Lib.hid (hp ▸ sp1_read3 (p := 7) (q := 9) (load := a0) (junk := a2) (b := 3) hck (by decide) (by decide))
    clear hp hck h1024 j1024 hSH g1 g2 g3 g4 g5 h0 h2 h1
    go_enter Tryd.func5, Tryd.ntmps5
    go_wp2_with fail
    refine (newL 20 20 (by decide) (by decide) (by decide) (by decide) w w bel).mono ?_
    rintro e w1 ⟨g, S1, rfl, lv, hS0, k0⟩
    have hR := hR.moved k0
    have bel := hthen bel k0
    clear k0
    clear hS0
    go_wp2_with fail
    obtain ⟨w2, hw2⟩ : ∃ x, w1.alloc (.cells #[.int .i64 0, .int .i64 7, .int .i64 1, .int .i64 9] 33) = x := ⟨_, rfl⟩
    obtain ⟨ill, hill⟩ : ∃ i, w1.heap.size = i := ⟨_, rfl⟩
    have ll : Blk w2 ill 33 #[.int .i64 0, .int .i64 7, .int .i64 1, .int .i64 9] := by rw [← hw2, ← hill]; exact Blk.new _ _ _
    have k2 : Below w1.heap.size w1 w2 := by rw [← hw2]; exact (Below.refl _ _).alloc (Nat.le_refl _) _
    have zll : w2.heap.size = ill + 1 := by rw [← hw2, ← hill]; simp
    rw [hw2, hill]
    have nSll : ¬ S1 ill := fun e => by have := lv.o.lt _ e; omega
    have hR := hR.moved k2
    have lv := lv.below k2
    have bel := hthen bel k2
    clear k2
    clear hw2 hill
    have plll : PtOn S1 w2 (.slice (some ⟨ill, 0, none⟩) 2 2) [⟨0, 7⟩, ⟨1, 9⟩] := lit2 ll nSll
    refine (bwr_ok (p := ⟨[⟨0, 7⟩, ⟨1, 9⟩], (a0.length : Int), 3, SH⟩) (load := a0) (birth := 3) HPF.out HCK.out HSZ.out HNG.out HWR.out (by decide) S1 g _ w _ bel hR plll lv).mono ?_
    rintro e w3 ⟨u, S3, rfl, lv, gS, kS, bel, ln⟩
    have mSll : ¬ S3 ill := fun e => (gS _ e).elim nSll (fun e => by have := ll.lt; omega)
    have ll := ll.keep kS ll.lt nSll
    have nSll := mSll
    clear mSll
    have hR := HRW.out.moved bel
    clear gS kS
    obtain ⟨A, c, rfl, -, -⟩ := ln.at_.form
    go_upto_region 7 with fail
    have ln : PtOn _ _ (.slice A 2 c) [⟨0, 7⟩, ⟨1, 9⟩] := ln
    have lv : Lv w _ _ g (D2 7 9 [] [] false false [⟨⟨0, 7⟩, a0⟩, ⟨⟨1, 9⟩, a0⟩]) := lv
    obtain ⟨w4, hw4⟩ : ∃ x, w3.alloc (.cells #[.slice A 2 c, .int .i64 a0.length, .int .i64 3, .string (bstr SH)] 25) = x := ⟨_, rfl⟩
    obtain ⟨ib0, hib0⟩ : ∃ i, w3.heap.size = i := ⟨_, rfl⟩
    have b0 : Blk w4 ib0 25 #[.slice A 2 c, .int .i64 a0.length, .int .i64 3, .string (bstr SH)] := by rw [← hw4, ← hib0]; exact Blk.new _ _ _
    have k4 : Below w3.heap.size w3 w4 := by rw [← hw4]; exact (Below.refl _ _).alloc (Nat.le_refl _) _
    have zb0 : w4.heap.size = ib0 + 1 := by rw [← hw4, ← hib0]; simp
    rw [hw4, hib0]
    have nSb0 : ¬ S3 ib0 := fun e => by have := lv.o.lt _ e; omega
    have hR := hR.moved k4
    have lv := lv.below k4
    have ln := ln.below k4
    have bel := hthen bel k4
    clear k4
    clear hw4 hib0
    have b0c0 := b0.cell 0
    have b0c1 := b0.cell 1
    have b0c2 := b0.cell 2
    have b0c3 := b0.cell 3
    simp at b0c0 b0c1 b0c2 b0c3
    have b0lt := b0.lt
    go_wp2_with fail
    refine (flushL S3 g _ (by simp [D2]) w _ bel lv).mono ?_
    rintro e w5 ⟨rfl, S5, lv, gS, kS, bel⟩
    clear b0c0 b0c1 b0c2 b0c3 b0lt
    have mSb0 : ¬ S5 ib0 := fun e => (gS _ e).elim nSb0 (fun e => by have := b0.lt; omega)
    have b0 := b0.keep kS b0.lt nSb0
    have nSb0 := mSb0
    clear mSb0
    have hR := HRW.out.moved bel
    have ln := ln.post gS kS
    clear gS kS
    rw [show (D2 7 9 [] [] false false [⟨⟨0, 7⟩, a0⟩, ⟨⟨1, 9⟩, a0⟩]).flush = D2 7 9 a0 a0 false false [] from flush2 (p := 7) (q := 9)] at lv
    obtain ⟨ad, rfl, cc0, cc1, cc2, cc3⟩ := ln.cells2
    have b0c0 := b0.cell 0
    have b0c1 := b0.cell 1
    have b0c2 := b0.cell 2
    have b0c3 := b0.cell 3
    simp at b0c0 b0c1 b0c2 b0c3
    have b0lt := b0.lt
    go_wp2_with fail
    clear cc0 cc1 cc2 cc3
    refine (spoilL (e0 := 0) S5 g (D2 7 9 a0 a0 false false []) ⟨1, 9⟩ a2 (may1 (p := 7) (q := 9) (by decide) J10.out) (by simp [D2]) w _ bel lv).mono ?_
    rintro e w6 ⟨rfl, S6, lv, gS, kS, bel⟩
    clear b0c0 b0c1 b0c2 b0c3 b0lt
    have mSb0 : ¬ S6 ib0 := fun e => (gS _ e).elim nSb0 (fun e => by have := b0.lt; omega)
    have b0 := b0.keep kS b0.lt nSb0
    have nSb0 := mSb0
    clear mSb0
    have hR := HRW.out.moved bel
    have ln := ln.post gS kS
    clear gS kS
    rw [show (D2 7 9 a0 a0 false false []).spoilAt ⟨1, 9⟩ a2 = D2 7 9 a0 a2 false false [] from spoil1 (p := 7) (q := 9) (by decide) J10.out] at lv
    have b0c0 := b0.cell 0
    have b0c1 := b0.cell 1
    have b0c2 := b0.cell 2
    have b0c3 := b0.cell 3
    simp at b0c0 b0c1 b0c2 b0c3
    have b0lt := b0.lt
    go_wp2_with fail
    refine (bread_to (p := ⟨[⟨0, 7⟩, ⟨1, 9⟩], (a0.length : Int), 3, SH⟩) HR1.out _ hR ln.at_ (lv.rd (by simp [D2]))).mono ?_
    rintro e w7 ⟨rfl, k7⟩
    clear b0c0 b0c1 b0c2 b0c3 b0lt
    have b0 := b0.below k7 b0.lt
    have hR := hR.moved k7
    have lv := lv.below k7
    have ln := ln.below k7
    have bel := hthen bel k7
    clear k7
    have b0c0 := b0.cell 0
    have b0c1 := b0.cell 1
    have b0c2 := b0.cell 2
    have b0c3 := b0.cell 3
    simp at b0c0 b0c1 b0c2 b0c3
    have b0lt := b0.lt
    go_wp2_with fail
    refine (mend_to (p := ⟨[⟨0, 7⟩, ⟨1, 9⟩], (a0.length : Int), 3, SH⟩) HR1.out HM1.out (by simp [D2]) S6 g _ w _ bel hR ln lv).mono ?_
    rintro e w8 ⟨rfl, S8, lv, gS, kS, bel⟩
    clear b0c0 b0c1 b0c2 b0c3 b0lt
    have mSb0 : ¬ S8 ib0 := fun e => (gS _ e).elim nSb0 (fun e => by have := b0.lt; omega)
    have b0 := b0.keep kS b0.lt nSb0
    have nSb0 := mSb0
    clear mSb0
    have hR := HRW.out.moved bel
    have ln := ln.post gS kS
    clear gS kS
    have cz := ln.cells2
    obtain ⟨ad2, e2, cc0, cc1, cc2, cc3⟩ := cz
    cases e2
    have b0c0 := b0.cell 0
    have b0c1 := b0.cell 1
    have b0c2 := b0.cell 2
    have b0c3 := b0.cell 3
    simp at b0c0 b0c1 b0c2 b0c3
    have b0lt := b0.lt
    go_wp2_with fail
    clear cc0 cc1 cc2 cc3
    refine (loseL (e0 := 0) S8 g _ 0 rfl (by simp [D2]) w _ bel lv).mono ?_
    rintro e w9 ⟨rfl, S9, lv, gS, kS, bel⟩
    clear b0c0 b0c1 b0c2 b0c3 b0lt
    have mSb0 : ¬ S9 ib0 := fun e => (gS _ e).elim nSb0 (fun e => by have := b0.lt; omega)
    have b0 := b0.keep kS b0.lt nSb0
    have nSb0 := mSb0
    clear mSb0
    have hR := HRW.out.moved bel
    have ln := ln.post gS kS
    clear gS kS
    have lv := HLO.out ▸ lv
    have b0c0 := b0.cell 0
    have b0c1 := b0.cell 1
    have b0c2 := b0.cell 2
    have b0c3 := b0.cell 3
    simp at b0c0 b0c1 b0c2 b0c3
    have b0lt := b0.lt
    go_wp2_with fail
    refine (bread_to (p := ⟨[⟨0, 7⟩, ⟨1, 9⟩], (a0.length : Int), 3, SH⟩) HR3.out _ hR ln.at_ (lv.rd (by simp [D2]))).mono ?_
    rintro e w10 ⟨rfl, k10⟩
    clear b0c0 b0c1 b0c2 b0c3 b0lt
    have b0 := b0.below k10 b0.lt
    have hR := hR.moved k10
    have lv := lv.below k10
    have ln := ln.below k10
    have bel := hthen bel k10
    clear k10
    clear qg1 qg2 qg3 qg4 qg5 sz0 sz2
    have hmin : min (0 : Int) 1 = 0 := by decide
    have b0c0 := b0.cell 0
    have b0c1 := b0.cell 1
    have b0c2 := b0.cell 2
    have b0c3 := b0.cell 3
    simp at b0c0 b0c1 b0c2 b0c3
    have b0lt := b0.lt
    go_wp2_with fail
    refine (live_ok _ hR).mono ?_
    rintro e w11 ⟨rfl, k11⟩
    clear b0c0 b0c1 b0c2 b0c3 b0lt
    have b0 := b0.below k11 b0.lt
    have hR := hR.moved k11
    have lv := lv.below k11
    have ln := ln.below k11
    have bel := hthen bel k11
    clear k11
    go_wp2
    go_ret
    exact ⟨rfl, bel⟩
end Go.Proofs.YtmdjbmhjnajpgaaDoor
