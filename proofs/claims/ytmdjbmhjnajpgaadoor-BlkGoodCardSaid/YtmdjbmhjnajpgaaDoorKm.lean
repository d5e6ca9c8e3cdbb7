/- The walks of BlkGood. -/
import Derived.Test.YtmdjbmhjnajpgaaDoorKk
namespace Go.Proofs.YtmdjbmhjnajpgaaDoor
open Go Go.RowKit
set_option linter.unusedSimpArgs false
set_option linter.unnecessarySimpa false
set_option linter.unusedVariables false

theorem goods_alike {x y load : List UInt8} {b : Int} : goodsL (D2 7 9 x y false false []).read (P2 7 9 load b) = [alikeB x load, alikeB y load] := both_good (by decide) (by decide)
set_option maxRecDepth 100000 in
set_option maxHeartbeats 8000000 in
theorem blkGood_walk (w : World) (hR : RootsAt w) (a0 : List UInt8) (h0 : a0.length ≤ 140737488351232) (a1 : List UInt8) (h1 : a1.length ≤ 140737488351232) (a2 : List UInt8) (h2 : a2.length ≤ 140737488351232) :
    Calls Tryd.prog 6 #[.string (bstr a0), .string (bstr a1), .string (bstr a2)] w fun e w' => e = .returned (.bool true) ∧ Below w.heap.size w w' := by
  have HRW := Lib.hid hR
  have bel : Below w.heap.size w w := Below.refl _ _
  have sz0 : (bstr a0).size = a0.length := by simp [bstr, ByteArray.size]
  have sz1 : (bstr a1).size = a1.length := by simp [bstr, ByteArray.size]
  have sz2 : (bstr a2).size = a2.length := by simp [bstr, ByteArray.size]
  by_cases g1 : 960 < a0.length
  · have qg1 : decide ((a0.length : Int) > 960) = true := decide_eq_true (by omega)
    go_enter Tryd.func6, Tryd.ntmps6
    go_wp2_with fail
    refine (live_ok _ hR).mono ?_
    rintro e w1 ⟨rfl, k1⟩
    have hR := hR.moved k1
    have bel := hthen bel k1
    clear k1
    go_wp2
    go_ret
    exact ⟨rfl, bel⟩
  have qg1 : decide ((a0.length : Int) > 960) = false := decide_eq_false (by omega)
  by_cases g2 : 1024 < a1.length
  · have qg2 : decide ((a1.length : Int) > 1024) = true := decide_eq_true (by omega)
    go_enter Tryd.func6, Tryd.ntmps6
    go_wp2_with fail
    refine (live_ok _ hR).mono ?_
    rintro e w1 ⟨rfl, k1⟩
    have hR := hR.moved k1
    have bel := hthen bel k1
    clear k1
    go_wp2
    go_ret
    exact ⟨rfl, bel⟩
  have qg2 : decide ((a1.length : Int) > 1024) = false := decide_eq_false (by omega)
  by_cases g3 : 1024 < a2.length
  · have qg3 : decide ((a2.length : Int) > 1024) = true := decide_eq_true (by omega)
    go_enter Tryd.func6, Tryd.ntmps6
    go_wp2_with fail
    refine (live_ok _ hR).mono ?_
    rintro e w1 ⟨rfl, k1⟩
    have hR := hR.moved k1
    have bel := hthen bel k1
    clear k1
    go_wp2
    go_ret
    exact ⟨rfl, bel⟩
  have qg3 : decide ((a2.length : Int) > 1024) = false := decide_eq_false (by omega)
  obtain ⟨SH, hSH⟩ : ∃ x, shaL a0 = x := ⟨_, rfl⟩
  have hp : P2 7 9 a0 3 = ⟨[⟨0, 7⟩, ⟨1, 9⟩], (a0.length : Int), 3, SH⟩ := by unfold P2; rw [hSH]; rfl
  have hck : ckE (P2 7 9 a0 3) = 0 := P2_ok (by decide) (by decide) (by omega) (by decide) (by decide)
  have h1024 : a0.length ≤ 1024 := by omega
  have HPF := Lib.hid (show (⟨[⟨0, 7⟩, ⟨1, 9⟩], (a0.length : Int), 3, SH⟩ : Pt) = ⟨[⟨0, 7⟩, ⟨1, 9⟩], a0.length, 3, shaL a0⟩ by rw [hSH])
  have HCK := Lib.hid (hp ▸ hck)
  have HSZ := Lib.hid (hp ▸ two_sizes (p := 7) (q := 9) (load := a0) (b := 3) (by decide) (by decide))
  have HNG := Lib.hid (hp ▸ two_gone (p := 7) (q := 9) (load := a0) (b := 3))
  have HWR := Lib.hid (hp ▸ two_written (p := 7) (q := 9) (load := a0) (b := 3) (by decide) (by decide) h1024)
  have J1 : Hid (a1.length ≤ 1024) := Lib.hid (by omega)
  have J2 : Hid (a2.length ≤ 1024) := Lib.hid (by omega)
  have K0 : Hid (a0.length ≤ 8000) := Lib.hid (by omega)
  have K1 : Hid (a1.length ≤ 8000) := Lib.hid (by omega)
  have K2 : Hid (a2.length ≤ 8000) := Lib.hid (by omega)
  have hr := both_read (p := 7) (q := 9) (load := a0) (b := 3) (x := a1) (y := a2) hck (by decide) (by decide)
  have hg := goods_alike (x := a1) (y := a2) (load := a0) (b := 3)
  have x1 : (decide (a1.length = a0.length) && decide (shaL a1 = shaL a0)) = alikeB a1 a0 := rfl
  have x2 : (decide (a2.length = a0.length) && decide (shaL a2 = shaL a0)) = alikeB a2 a0 := rfl
  rw [x1, x2, hp] at hr
  rw [hp] at hg
  obtain ⟨B1, hB1⟩ : ∃ b, alikeB a1 a0 = b := ⟨_, rfl⟩
  obtain ⟨B2, hB2⟩ : ∃ b, alikeB a2 a0 = b := ⟨_, rfl⟩
  rw [hB1, hB2] at hr hg
  have HA1 := Lib.hid hB1
  have HA2 := Lib.hid hB2
  have HG := Lib.hid hg
  have r0 : (a0 == a0) = true := by simp
  have r1 : (a1 == a1) = true := by simp
  have r2 : (a2 == a2) = true := by simp
  clear x1 x2 hp hck hSH h1024 hB1 hB2 hg h0 h1 h2 g1 g2 g3
  cases B1
  · cases B2
    · have HR1 : Hid (readB (D2 7 9 a1 a2 false false []).read ⟨[⟨0, 7⟩, ⟨1, 9⟩], (a0.length : Int), 3, SH⟩ = (([], 0), 7)) := Lib.hid (hr.trans (by simp))
      clear hr
      go_enter Tryd.func6, Tryd.ntmps6
      go_wp2_with fail
      refine (newL 20 20 (by decide) (by decide) (by decide) (by decide) w w bel).mono ?_
      rintro e w1 ⟨g, S1, rfl, lv, hS0, k0⟩
      have hR := hR.moved k0
      have bel := hthen bel k0
      clear k0
      clear hS0
      go_wp2_with fail
      obtain ⟨w2, hw2⟩ : ∃ x, w1.alloc (.cells #[.int .i64 0, .int .i64 7, .int .i64 1, .int .i64 9] 33) = x := ⟨_, rfl⟩
      obtain ⟨ill, hill⟩ : ∃ i, w1.heap.size = i := ⟨_, rfl⟩
      have ll : Blk w2 ill 33 #[.int .i64 0, .int .i64 7, .int .i64 1, .int .i64 9] := by rw [← hw2, ← hill]; exact Blk.new _ _ _
      have k2 : Below w1.heap.size w1 w2 := by rw [← hw2]; exact (Below.refl _ _).alloc (Nat.le_refl _) _
      have zll : w2.heap.size = ill + 1 := by rw [← hw2, ← hill]; simp
      rw [hw2, hill]
      have nSll : ¬ S1 ill := fun e => by have := lv.o.lt _ e; omega
      have hR := hR.moved k2
      have lv := lv.below k2
      have bel := hthen bel k2
      clear k2
      clear hw2 hill
      have plll : PtOn S1 w2 (.slice (some ⟨ill, 0, none⟩) 2 2) [⟨0, 7⟩, ⟨1, 9⟩] := lit2 ll nSll
      refine (bwr_ok (p := ⟨[⟨0, 7⟩, ⟨1, 9⟩], (a0.length : Int), 3, SH⟩) (load := a0) (birth := 3) HPF.out HCK.out HSZ.out HNG.out HWR.out (by decide) S1 g _ w _ bel hR plll lv).mono ?_
      rintro e w3 ⟨u, S3, rfl, lv, gS, kS, bel, ln⟩
      have mSll : ¬ S3 ill := fun e => (gS _ e).elim nSll (fun e => by have := ll.lt; omega)
      have ll := ll.keep kS ll.lt nSll
      have nSll := mSll
      clear mSll
      have hR := HRW.out.moved bel
      clear gS kS
      obtain ⟨A, c, rfl, -, -⟩ := ln.at_.form
      go_upto_region 7 with fail
      have ln : PtOn _ _ (.slice A 2 c) [⟨0, 7⟩, ⟨1, 9⟩] := ln
      have lv : Lv w _ _ g (D2 7 9 [] [] false false [⟨⟨0, 7⟩, a0⟩, ⟨⟨1, 9⟩, a0⟩]) := lv
      obtain ⟨w4, hw4⟩ : ∃ x, w3.alloc (.cells #[.slice A 2 c, .int .i64 a0.length, .int .i64 3, .string (bstr SH)] 25) = x := ⟨_, rfl⟩
      obtain ⟨ib0, hib0⟩ : ∃ i, w3.heap.size = i := ⟨_, rfl⟩
      have b0 : Blk w4 ib0 25 #[.slice A 2 c, .int .i64 a0.length, .int .i64 3, .string (bstr SH)] := by rw [← hw4, ← hib0]; exact Blk.new _ _ _
      have k4 : Below w3.heap.size w3 w4 := by rw [← hw4]; exact (Below.refl _ _).alloc (Nat.le_refl _) _
      have zb0 : w4.heap.size = ib0 + 1 := by rw [← hw4, ← hib0]; simp
      rw [hw4, hib0]
      have nSb0 : ¬ S3 ib0 := fun e => by have := lv.o.lt _ e; omega
      have hR := hR.moved k4
      have lv := lv.below k4
      have ln := ln.below k4
      have bel := hthen bel k4
      clear k4
      clear hw4 hib0
      have b0c0 := b0.cell 0
      have b0c1 := b0.cell 1
      have b0c2 := b0.cell 2
      have b0c3 := b0.cell 3
      simp at b0c0 b0c1 b0c2 b0c3
      have b0lt := b0.lt
      go_wp2_with fail
      refine (flushL S3 g _ (by simp [D2]) w _ bel lv).mono ?_
      rintro e w5 ⟨rfl, S5, lv, gS, kS, bel⟩
      clear b0c0 b0c1 b0c2 b0c3 b0lt
      have mSb0 : ¬ S5 ib0 := fun e => (gS _ e).elim nSb0 (fun e => by have := b0.lt; omega)
      have b0 := b0.keep kS b0.lt nSb0
      have nSb0 := mSb0
      clear mSb0
      have hR := HRW.out.moved bel
      have ln := ln.post gS kS
      clear gS kS
      rw [show (D2 7 9 [] [] false false [⟨⟨0, 7⟩, a0⟩, ⟨⟨1, 9⟩, a0⟩]).flush = D2 7 9 a0 a0 false false [] from flush2 (p := 7) (q := 9)] at lv
      have b0c0 := b0.cell 0
      have b0c1 := b0.cell 1
      have b0c2 := b0.cell 2
      have b0c3 := b0.cell 3
      simp at b0c0 b0c1 b0c2 b0c3
      have b0lt := b0.lt
      go_wp2_with fail
      refine (spoilL (e0 := 0) S5 g (D2 7 9 a0 a0 false false []) ⟨0, 7⟩ a1 (may0 (p := 7) (q := 9) (by decide) J1.out) (by simp [D2]) w _ bel lv).mono ?_
      rintro e w6 ⟨rfl, S6, lv, gS, kS, bel⟩
      clear b0c0 b0c1 b0c2 b0c3 b0lt
      have mSb0 : ¬ S6 ib0 := fun e => (gS _ e).elim nSb0 (fun e => by have := b0.lt; omega)
      have b0 := b0.keep kS b0.lt nSb0
      have nSb0 := mSb0
      clear mSb0
      have hR := HRW.out.moved bel
      have ln := ln.post gS kS
      clear gS kS
      rw [show (D2 7 9 a0 a0 false false []).spoilAt ⟨0, 7⟩ a1 = D2 7 9 a1 a0 false false [] from spoil0 (p := 7) (q := 9) (by decide) J1.out] at lv
      have b0c0 := b0.cell 0
      have b0c1 := b0.cell 1
      have b0c2 := b0.cell 2
      have b0c3 := b0.cell 3
      simp at b0c0 b0c1 b0c2 b0c3
      have b0lt := b0.lt
      go_wp2_with fail
      refine (spoilL (e0 := 0) S6 g (D2 7 9 a1 a0 false false []) ⟨1, 9⟩ a2 (may1 (p := 7) (q := 9) (by decide) J2.out) (by simp [D2]) w _ bel lv).mono ?_
      rintro e w7 ⟨rfl, S7, lv, gS, kS, bel⟩
      clear b0c0 b0c1 b0c2 b0c3 b0lt
      have mSb0 : ¬ S7 ib0 := fun e => (gS _ e).elim nSb0 (fun e => by have := b0.lt; omega)
      have b0 := b0.keep kS b0.lt nSb0
      have nSb0 := mSb0
      clear mSb0
      have hR := HRW.out.moved bel
      have ln := ln.post gS kS
      clear gS kS
      rw [show (D2 7 9 a1 a0 false false []).spoilAt ⟨1, 9⟩ a2 = D2 7 9 a1 a2 false false [] from spoil1 (p := 7) (q := 9) (by decide) J2.out] at lv
      have b0c0 := b0.cell 0
      have b0c1 := b0.cell 1
      have b0c2 := b0.cell 2
      have b0c3 := b0.cell 3
      simp at b0c0 b0c1 b0c2 b0c3
      have b0lt := b0.lt
      go_wp2_with fail
      refine (bread_to (p := ⟨[⟨0, 7⟩, ⟨1, 9⟩], (a0.length : Int), 3, SH⟩) HR1.out _ hR ln.at_ (lv.rd (by simp [D2]))).mono ?_
      rintro e w8 ⟨rfl, k8⟩
      clear b0c0 b0c1 b0c2 b0c3 b0lt
      have b0 := b0.below k8 b0.lt
      have hR := hR.moved k8
      have lv := lv.below k8
      have ln := ln.below k8
      have bel := hthen bel k8
      clear k8
      have b0c0 := b0.cell 0
      have b0c1 := b0.cell 1
      have b0c2 := b0.cell 2
      have b0c3 := b0.cell 3
      simp at b0c0 b0c1 b0c2 b0c3
      have b0lt := b0.lt
      go_wp2_with fail
      refine (alike_any a1 a0 K1.out K0.out _).mono ?_
      rintro e w9 ⟨rfl, k9⟩
      clear b0c0 b0c1 b0c2 b0c3 b0lt
      have b0 := b0.below k9 b0.lt
      have hR := hR.moved k9
      have lv := lv.below k9
      have ln := ln.below k9
      have bel := hthen bel k9
      clear k9
      rw [HA1.out]
      have b0c0 := b0.cell 0
      have b0c1 := b0.cell 1
      have b0c2 := b0.cell 2
      have b0c3 := b0.cell 3
      simp at b0c0 b0c1 b0c2 b0c3
      have b0lt := b0.lt
      go_wp2_with fail
      refine (alike_any a2 a0 K2.out K0.out _).mono ?_
      rintro e w10 ⟨rfl, k10⟩
      clear b0c0 b0c1 b0c2 b0c3 b0lt
      have b0 := b0.below k10 b0.lt
      have hR := hR.moved k10
      have lv := lv.below k10
      have ln := ln.below k10
      have bel := hthen bel k10
      clear k10
      rw [HA2.out]
      have b0c0 := b0.cell 0
      have b0c1 := b0.cell 1
      have b0c2 := b0.cell 2
      have b0c3 := b0.cell 3
      simp at b0c0 b0c1 b0c2 b0c3
      have b0lt := b0.lt
      go_upto_region 12 with fail
      clear b0c0 b0c1 b0c2 b0c3 b0lt
      obtain ⟨w11, hw11⟩ : ∃ x, w10.alloc (.cells #[.bool false, .bool false] 4) = x := ⟨_, rfl⟩
      obtain ⟨ibs, hibs⟩ : ∃ i, w10.heap.size = i := ⟨_, rfl⟩
      have bs : Blk w11 ibs 4 #[.bool false, .bool false] := by rw [← hw11, ← hibs]; exact Blk.new _ _ _
      have k11 : Below w10.heap.size w10 w11 := by rw [← hw11]; exact (Below.refl _ _).alloc (Nat.le_refl _) _
      have zbs : w11.heap.size = ibs + 1 := by rw [← hw11, ← hibs]; simp
      rw [hw11, hibs]
      have nSbs : ¬ S7 ibs := fun e => by have := lv.o.lt _ e; omega
      have b0 := b0.below k11 b0.lt
      have hR := hR.moved k11
      have lv := lv.below k11
      have ln := ln.below k11
      have bel := hthen bel k11
      clear k11
      clear hw11 hibs
      have b0c0 := b0.cell 0
      have b0c1 := b0.cell 1
      have b0c2 := b0.cell 2
      have b0c3 := b0.cell 3
      simp at b0c0 b0c1 b0c2 b0c3
      have b0lt := b0.lt
      have bsc0 := bs.cell 0
      have bsc1 := bs.cell 1
      simp at bsc0 bsc1
      have bslt := bs.lt
      go_wp2_with fail
      refine (good_row (p := ⟨[⟨0, 7⟩, ⟨1, 9⟩], (a0.length : Int), 3, SH⟩) HG.out _ hR ln.at_ HCK.out (lv.rd (by simp [D2]))).mono ?_
      rintro e w12 ⟨ug, rfl, nr, k12⟩
      clear b0c0 b0c1 b0c2 b0c3 b0lt bsc0 bsc1 bslt
      have b0 := b0.below k12 b0.lt
      have bs := bs.below k12 bs.lt
      have hR := hR.moved k12
      have lv := lv.below k12
      have ln := ln.below k12
      have bel := hthen bel k12
      clear k12
      have b0c0 := b0.cell 0
      have b0c1 := b0.cell 1
      have b0c2 := b0.cell 2
      have b0c3 := b0.cell 3
      simp at b0c0 b0c1 b0c2 b0c3
      have b0lt := b0.lt
      have bsc0 := bs.cell 0
      have bsc1 := bs.cell 1
      simp at bsc0 bsc1
      have bslt := bs.lt
      go_wp2_with fail
      refine (bools_any _ (by simp) _ _ _ nr (litB2 bs)).mono ?_
      rintro e w13 ⟨rfl, k13⟩
      clear b0c0 b0c1 b0c2 b0c3 b0lt bsc0 bsc1 bslt
      have b0 := b0.below k13 b0.lt
      have bs := bs.below k13 bs.lt
      have hR := hR.moved k13
      have lv := lv.below k13
      have ln := ln.below k13
      have nr := nr.below k13
      have bel := hthen bel k13
      clear k13
      clear qg1 qg2 qg3 sz0 sz1 sz2
      have b0c0 := b0.cell 0
      have b0c1 := b0.cell 1
      have b0c2 := b0.cell 2
      have b0c3 := b0.cell 3
      simp at b0c0 b0c1 b0c2 b0c3
      have b0lt := b0.lt
      have bsc0 := bs.cell 0
      have bsc1 := bs.cell 1
      simp at bsc0 bsc1
      have bslt := bs.lt
      go_wp2_with fail
      refine (live_ok _ hR).mono ?_
      rintro e w14 ⟨rfl, k14⟩
      clear b0c0 b0c1 b0c2 b0c3 b0lt bsc0 bsc1 bslt
      have b0 := b0.below k14 b0.lt
      have bs := bs.below k14 bs.lt
      have hR := hR.moved k14
      have lv := lv.below k14
      have ln := ln.below k14
      have nr := nr.below k14
      have bel := hthen bel k14
      clear k14
      go_wp2
      go_ret
      exact ⟨rfl, bel⟩
    · have HR1 : Hid (readB (D2 7 9 a1 a2 false false []).read ⟨[⟨0, 7⟩, ⟨1, 9⟩], (a0.length : Int), 3, SH⟩ = ((a2, 1), 0)) := Lib.hid (hr.trans (by simp))
      clear hr
      go_enter Tryd.func6, Tryd.ntmps6
      go_wp2_with fail
      refine (newL 20 20 (by decide) (by decide) (by decide) (by decide) w w bel).mono ?_
      rintro e w1 ⟨g, S1, rfl, lv, hS0, k0⟩
      have hR := hR.moved k0
      have bel := hthen bel k0
      clear k0
      clear hS0
      go_wp2_with fail
      obtain ⟨w2, hw2⟩ : ∃ x, w1.alloc (.cells #[.int .i64 0, .int .i64 7, .int .i64 1, .int .i64 9] 33) = x := ⟨_, rfl⟩
      obtain ⟨ill, hill⟩ : ∃ i, w1.heap.size = i := ⟨_, rfl⟩
      have ll : Blk w2 ill 33 #[.int .i64 0, .int .i64 7, .int .i64 1, .int .i64 9] := by rw [← hw2, ← hill]; exact Blk.new _ _ _
      have k2 : Below w1.heap.size w1 w2 := by rw [← hw2]; exact (Below.refl _ _).alloc (Nat.le_refl _) _
      have zll : w2.heap.size = ill + 1 := by rw [← hw2, ← hill]; simp
      rw [hw2, hill]
      have nSll : ¬ S1 ill := fun e => by have := lv.o.lt _ e; omega
      have hR := hR.moved k2
      have lv := lv.below k2
      have bel := hthen bel k2
      clear k2
      clear hw2 hill
      have plll : PtOn S1 w2 (.slice (some ⟨ill, 0, none⟩) 2 2) [⟨0, 7⟩, ⟨1, 9⟩] := lit2 ll nSll
      refine (bwr_ok (p := ⟨[⟨0, 7⟩, ⟨1, 9⟩], (a0.length : Int), 3, SH⟩) (load := a0) (birth := 3) HPF.out HCK.out HSZ.out HNG.out HWR.out (by decide) S1 g _ w _ bel hR plll lv).mono ?_
      rintro e w3 ⟨u, S3, rfl, lv, gS, kS, bel, ln⟩
      have mSll : ¬ S3 ill := fun e => (gS _ e).elim nSll (fun e => by have := ll.lt; omega)
      have ll := ll.keep kS ll.lt nSll
      have nSll := mSll
      clear mSll
      have hR := HRW.out.moved bel
      clear gS kS
      obtain ⟨A, c, rfl, -, -⟩ := ln.at_.form
      go_upto_region 7 with fail
      have ln : PtOn _ _ (.slice A 2 c) [⟨0, 7⟩, ⟨1, 9⟩] := ln
      have lv : Lv w _ _ g (D2 7 9 [] [] false false [⟨⟨0, 7⟩, a0⟩, ⟨⟨1, 9⟩, a0⟩]) := lv
      obtain ⟨w4, hw4⟩ : ∃ x, w3.alloc (.cells #[.slice A 2 c, .int .i64 a0.length, .int .i64 3, .string (bstr SH)] 25) = x := ⟨_, rfl⟩
      obtain ⟨ib0, hib0⟩ : ∃ i, w3.heap.size = i := ⟨_, rfl⟩
      have b0 : Blk w4 ib0 25 #[.slice A 2 c, .int .i64 a0.length, .int .i64 3, .string (bstr SH)] := by rw [← hw4, ← hib0]; exact Blk.new _ _ _
      have k4 : Below w3.heap.size w3 w4 := by rw [← hw4]; exact (Below.refl _ _).alloc (Nat.le_refl _) _
      have zb0 : w4.heap.size = ib0 + 1 := by rw [← hw4, ← hib0]; simp
      rw [hw4, hib0]
      have nSb0 : ¬ S3 ib0 := fun e => by have := lv.o.lt _ e; omega
      have hR := hR.moved k4
      have lv := lv.below k4
      have ln := ln.below k4
      have bel := hthen bel k4
      clear k4
      clear hw4 hib0
      have b0c0 := b0.cell 0
      have b0c1 := b0.cell 1
      have b0c2 := b0.cell 2
      have b0c3 := b0.cell 3
      simp at b0c0 b0c1 b0c2 b0c3
      have b0lt := b0.lt
      go_wp2_with fail
      refine (flushL S3 g _ (by simp [D2]) w _ bel lv).mono ?_
      rintro e w5 ⟨rfl, S5, lv, gS, kS, bel⟩
      clear b0c0 b0c1 b0c2 b0c3 b0lt
      have mSb0 : ¬ S5 ib0 := fun e => (gS _ e).elim nSb0 (fun e => by have := b0.lt; omega)
      have b0 := b0.keep kS b0.lt nSb0
      have nSb0 := mSb0
      clear mSb0
      have hR := HRW.out.moved bel
      have ln := ln.post gS kS
      clear gS kS
      rw [show (D2 7 9 [] [] false false [⟨⟨0, 7⟩, a0⟩, ⟨⟨1, 9⟩, a0⟩]).flush = D2 7 9 a0 a0 false false [] from flush2 (p := 7) (q := 9)] at lv
      have b0c0 := b0.cell 0
      have b0c1 := b0.cell 1
      have b0c2 := b0.cell 2
      have b0c3 := b0.cell 3
      simp at b0c0 b0c1 b0c2 b0c3
      have b0lt := b0.lt
      go_wp2_with fail
      refine (spoilL (e0 := 0) S5 g (D2 7 9 a0 a0 false false []) ⟨0, 7⟩ a1 (may0 (p := 7) (q := 9) (by decide) J1.out) (by simp [D2]) w _ bel lv).mono ?_
      rintro e w6 ⟨rfl, S6, lv, gS, kS, bel⟩
      clear b0c0 b0c1 b0c2 b0c3 b0lt
      have mSb0 : ¬ S6 ib0 := fun e => (gS _ e).elim nSb0 (fun e => by have := b0.lt; omega)
      have b0 := b0.keep kS b0.lt nSb0
      have nSb0 := mSb0
      clear mSb0
      have hR := HRW.out.moved bel
      have ln := ln.post gS kS
      clear gS kS
      rw [show (D2 7 9 a0 a0 false false []).spoilAt ⟨0, 7⟩ a1 = D2 7 9 a1 a0 false false [] from spoil0 (p := 7) (q := 9) (by decide) J1.out] at lv
      have b0c0 := b0.cell 0
      have b0c1 := b0.cell 1
      have b0c2 := b0.cell 2
      have b0c3 := b0.cell 3
      simp at b0c0 b0c1 b0c2 b0c3
      have b0lt := b0.lt
      go_wp2_with fail
      refine (spoilL (e0 := 0) S6 g (D2 7 9 a1 a0 false false []) ⟨1, 9⟩ a2 (may1 (p := 7) (q := 9) (by decide) J2.out) (by simp [D2]) w _ bel lv).mono ?_
      rintro e w7 ⟨rfl, S7, lv, gS, kS, bel⟩
      clear b0c0 b0c1 b0c2 b0c3 b0lt
      have mSb0 : ¬ S7 ib0 := fun e => (gS _ e).elim nSb0 (fun e => by have := b0.lt; omega)
      have b0 := b0.keep kS b0.lt nSb0
      have nSb0 := mSb0
      clear mSb0
      have hR := HRW.out.moved bel
      have ln := ln.post gS kS
      clear gS kS
      rw [show (D2 7 9 a1 a0 false false []).spoilAt ⟨1, 9⟩ a2 = D2 7 9 a1 a2 false false [] from spoil1 (p := 7) (q := 9) (by decide) J2.out] at lv
      have b0c0 := b0.cell 0
      have b0c1 := b0.cell 1
      have b0c2 := b0.cell 2
      have b0c3 := b0.cell 3
      simp at b0c0 b0c1 b0c2 b0c3
      have b0lt := b0.lt
      go_wp2_with fail
      refine (bread_to (p := ⟨[⟨0, 7⟩, ⟨1, 9⟩], (a0.length : Int), 3, SH⟩) HR1.out _ hR ln.at_ (lv.rd (by simp [D2]))).mono ?_
      rintro e w8 ⟨rfl, k8⟩
      clear b0c0 b0c1 b0c2 b0c3 b0lt
      have b0 := b0.below k8 b0.lt
      have hR := hR.moved k8
      have lv := lv.below k8
      have ln := ln.below k8
      have bel := hthen bel k8
      clear k8
      have b0c0 := b0.cell 0
      have b0c1 := b0.cell 1
      have b0c2 := b0.cell 2
      have b0c3 := b0.cell 3
      simp at b0c0 b0c1 b0c2 b0c3
      have b0lt := b0.lt
      go_wp2_with fail
      refine (alike_any a1 a0 K1.out K0.out _).mono ?_
      rintro e w9 ⟨rfl, k9⟩
      clear b0c0 b0c1 b0c2 b0c3 b0lt
      have b0 := b0.below k9 b0.lt
      have hR := hR.moved k9
      have lv := lv.below k9
      have ln := ln.below k9
      have bel := hthen bel k9
      clear k9
      rw [HA1.out]
      have b0c0 := b0.cell 0
      have b0c1 := b0.cell 1
      have b0c2 := b0.cell 2
      have b0c3 := b0.cell 3
      simp at b0c0 b0c1 b0c2 b0c3
      have b0lt := b0.lt
      go_wp2_with fail
      refine (alike_any a2 a0 K2.out K0.out _).mono ?_
      rintro e w10 ⟨rfl, k10⟩
      clear b0c0 b0c1 b0c2 b0c3 b0lt
      have b0 := b0.below k10 b0.lt
      have hR := hR.moved k10
      have lv := lv.below k10
      have ln := ln.below k10
      have bel := hthen bel k10
      clear k10
      rw [HA2.out]
      have b0c0 := b0.cell 0
      have b0c1 := b0.cell 1
      have b0c2 := b0.cell 2
      have b0c3 := b0.cell 3
      simp at b0c0 b0c1 b0c2 b0c3
      have b0lt := b0.lt
      go_upto_region 12 with fail
      clear b0c0 b0c1 b0c2 b0c3 b0lt
      obtain ⟨w11, hw11⟩ : ∃ x, w10.alloc (.cells #[.bool false, .bool true] 4) = x := ⟨_, rfl⟩
      obtain ⟨ibs, hibs⟩ : ∃ i, w10.heap.size = i := ⟨_, rfl⟩
      have bs : Blk w11 ibs 4 #[.bool false, .bool true] := by rw [← hw11, ← hibs]; exact Blk.new _ _ _
      have k11 : Below w10.heap.size w10 w11 := by rw [← hw11]; exact (Below.refl _ _).alloc (Nat.le_refl _) _
      have zbs : w11.heap.size = ibs + 1 := by rw [← hw11, ← hibs]; simp
      rw [hw11, hibs]
      have nSbs : ¬ S7 ibs := fun e => by have := lv.o.lt _ e; omega
      have b0 := b0.below k11 b0.lt
      have hR := hR.moved k11
      have lv := lv.below k11
      have ln := ln.below k11
      have bel := hthen bel k11
      clear k11
      clear hw11 hibs
      have b0c0 := b0.cell 0
      have b0c1 := b0.cell 1
      have b0c2 := b0.cell 2
      have b0c3 := b0.cell 3
      simp at b0c0 b0c1 b0c2 b0c3
      have b0lt := b0.lt
      have bsc0 := bs.cell 0
      have bsc1 := bs.cell 1
      simp at bsc0 bsc1
      have bslt := bs.lt
      go_wp2_with fail
      refine (good_row (p := ⟨[⟨0, 7⟩, ⟨1, 9⟩], (a0.length : Int), 3, SH⟩) HG.out _ hR ln.at_ HCK.out (lv.rd (by simp [D2]))).mono ?_
      rintro e w12 ⟨ug, rfl, nr, k12⟩
      clear b0c0 b0c1 b0c2 b0c3 b0lt bsc0 bsc1 bslt
      have b0 := b0.below k12 b0.lt
      have bs := bs.below k12 bs.lt
      have hR := hR.moved k12
      have lv := lv.below k12
      have ln := ln.below k12
      have bel := hthen bel k12
      clear k12
      have b0c0 := b0.cell 0
      have b0c1 := b0.cell 1
      have b0c2 := b0.cell 2
      have b0c3 := b0.cell 3
      simp at b0c0 b0c1 b0c2 b0c3
      have b0lt := b0.lt
      have bsc0 := bs.cell 0
      have bsc1 := bs.cell 1
      simp at bsc0 bsc1
      have bslt := bs.lt
      go_wp2_with fail
      refine (bools_any _ (by simp) _ _ _ nr (litB2 bs)).mono ?_
      rintro e w13 ⟨rfl, k13⟩
      clear b0c0 b0c1 b0c2 b0c3 b0lt bsc0 bsc1 bslt
      have b0 := b0.below k13 b0.lt
      have bs := bs.below k13 bs.lt
      have hR := hR.moved k13
      have lv := lv.below k13
      have ln := ln.below k13
      have nr := nr.below k13
      have bel := hthen bel k13
      clear k13
      clear qg1 qg2 qg3 sz0 sz1 sz2
      have b0c0 := b0.cell 0
      have b0c1 := b0.cell 1
      have b0c2 := b0.cell 2
      have b0c3 := b0.cell 3
      simp at b0c0 b0c1 b0c2 b0c3
      have b0lt := b0.lt
      have bsc0 := bs.cell 0
      have bsc1 := bs.cell 1
      simp at bsc0 bsc1
      have bslt := bs.lt
      go_wp2_with fail
      refine (live_ok _ hR).mono ?_
      rintro e w14 ⟨rfl, k14⟩
      clear b0c0 b0c1 b0c2 b0c3 b0lt bsc0 bsc1 bslt
      have b0 := b0.below k14 b0.lt
      have bs := bs.below k14 bs.lt
      have hR := hR.moved k14
      have lv := lv.below k14
      have ln := ln.below k14
      have nr := nr.below k14
      have bel := hthen bel k14
      clear k14
      go_wp2
      go_ret
      exact ⟨rfl, bel⟩
  · cases B2
    · have HR1 : Hid (readB (D2 7 9 a1 a2 false false []).read ⟨[⟨0, 7⟩, ⟨1, 9⟩], (a0.length : Int), 3, SH⟩ = ((a1, 0), 0)) := Lib.hid (hr.trans (by simp))
      clear hr
      go_enter Tryd.func6, Tryd.ntmps6
      go_wp2_with fail
      refine (newL 20 20 (by decide) (by decide) (by decide) (by decide) w w bel).mono ?_
      rintro e w1 ⟨g, S1, rfl, lv, hS0, k0⟩
      have hR := hR.moved k0
      have bel := hthen bel k0
      clear k0
      clear hS0
      go_wp2_with fail
      obtain ⟨w2, hw2⟩ : ∃ x, w1.alloc (.cells #[.int .i64 0, .int .i64 7, .int .i64 1, .int .i64 9] 33) = x := ⟨_, rfl⟩
      obtain ⟨ill, hill⟩ : ∃ i, w1.heap.size = i := ⟨_, rfl⟩
      have ll : Blk w2 ill 33 #[.int .i64 0, .int .i64 7, .int .i64 1, .int .i64 9] := by rw [← hw2, ← hill]; exact Blk.new _ _ _
      have k2 : Below w1.heap.size w1 w2 := by rw [← hw2]; exact (Below.refl _ _).alloc (Nat.le_refl _) _
      have zll : w2.heap.size = ill + 1 := by rw [← hw2, ← hill]; simp
      rw [hw2, hill]
      have nSll : ¬ S1 ill := fun e => by have := lv.o.lt _ e; omega
      have hR := hR.moved k2
      have lv := lv.below k2
      have bel := hthen bel k2
      clear k2
      clear hw2 hill
      have plll : PtOn S1 w2 (.slice (some ⟨ill, 0, none⟩) 2 2) [⟨0, 7⟩, ⟨1, 9⟩] := lit2 ll nSll
      refine (bwr_ok (p := ⟨[⟨0, 7⟩, ⟨1, 9⟩], (a0.length : Int), 3, SH⟩) (load := a0) (birth := 3) HPF.out HCK.out HSZ.out HNG.out HWR.out (by decide) S1 g _ w _ bel hR plll lv).mono ?_
      rintro e w3 ⟨u, S3, rfl, lv, gS, kS, bel, ln⟩
      have mSll : ¬ S3 ill := fun e => (gS _ e).elim nSll (fun e => by have := ll.lt; omega)
      have ll := ll.keep kS ll.lt nSll
      have nSll := mSll
      clear mSll
      have hR := HRW.out.moved bel
      clear gS kS
      obtain ⟨A, c, rfl, -, -⟩ := ln.at_.form
      go_upto_region 7 with fail
      have ln : PtOn _ _ (.slice A 2 c) [⟨0, 7⟩, ⟨1, 9⟩] := ln
      have lv : Lv w _ _ g (D2 7 9 [] [] false false [⟨⟨0, 7⟩, a0⟩, ⟨⟨1, 9⟩, a0⟩]) := lv
      obtain ⟨w4, hw4⟩ : ∃ x, w3.alloc (.cells #[.slice A 2 c, .int .i64 a0.length, .int .i64 3, .string (bstr SH)] 25) = x := ⟨_, rfl⟩
      obtain ⟨ib0, hib0⟩ : ∃ i, w3.heap.size = i := ⟨_, rfl⟩
      have b0 : Blk w4 ib0 25 #[.slice A 2 c, .int .i64 a0.length, .int .i64 3, .string (bstr SH)] := by rw [← hw4, ← hib0]; exact Blk.new _ _ _
      have k4 : Below w3.heap.size w3 w4 := by rw [← hw4]; exact (Below.refl _ _).alloc (Nat.le_refl _) _
      have zb0 : w4.heap.size = ib0 + 1 := by rw [← hw4, ← hib0]; simp
      rw [hw4, hib0]
      have nSb0 : ¬ S3 ib0 := fun e => by have := lv.o.lt _ e; omega
      have hR := hR.moved k4
      have lv := lv.below k4
      have ln := ln.below k4
      have bel := hthen bel k4
      clear k4
      clear hw4 hib0
      have b0c0 := b0.cell 0
      have b0c1 := b0.cell 1
      have b0c2 := b0.cell 2
      have b0c3 := b0.cell 3
      simp at b0c0 b0c1 b0c2 b0c3
      have b0lt := b0.lt
      go_wp2_with fail
      refine (flushL S3 g _ (by simp [D2]) w _ bel lv).mono ?_
      rintro e w5 ⟨rfl, S5, lv, gS, kS, bel⟩
      clear b0c0 b0c1 b0c2 b0c3 b0lt
      have mSb0 : ¬ S5 ib0 := fun e => (gS _ e).elim nSb0 (fun e => by have := b0.lt; omega)
      have b0 := b0.keep kS b0.lt nSb0
      have nSb0 := mSb0
      clear mSb0
      have hR := HRW.out.moved bel
      have ln := ln.post gS kS
      clear gS kS
      rw [show (D2 7 9 [] [] false false [⟨⟨0, 7⟩, a0⟩, ⟨⟨1, 9⟩, a0⟩]).flush = D2 7 9 a0 a0 false false [] from flush2 (p := 7) (q := 9)] at lv
      have b0c0 := b0.cell 0
      have b0c1 := b0.cell 1
      have b0c2 := b0.cell 2
      have b0c3 := b0.cell 3
      simp at b0c0 b0c1 b0c2 b0c3
      have b0lt := b0.lt
      go_wp2_with fail
      refine (spoilL (e0 := 0) S5 g (D2 7 9 a0 a0 false false []) ⟨0, 7⟩ a1 (may0 (p := 7) (q := 9) (by decide) J1.out) (by simp [D2]) w _ bel lv).mono ?_
      rintro e w6 ⟨rfl, S6, lv, gS, kS, bel⟩
      clear b0c0 b0c1 b0c2 b0c3 b0lt
      have mSb0 : ¬ S6 ib0 := fun e => (gS _ e).elim nSb0 (fun e => by have := b0.lt; omega)
      have b0 := b0.keep kS b0.lt nSb0
      have nSb0 := mSb0
      clear mSb0
      have hR := HRW.out.moved bel
      have ln := ln.post gS kS
      clear gS kS
      rw [show (D2 7 9 a0 a0 false false []).spoilAt ⟨0, 7⟩ a1 = D2 7 9 a1 a0 false false [] from spoil0 (p := 7) (q := 9) (by decide) J1.out] at lv
      have b0c0 := b0.cell 0
      have b0c1 := b0.cell 1
      have b0c2 := b0.cell 2
      have b0c3 := b0.cell 3
      simp at b0c0 b0c1 b0c2 b0c3
      have b0lt := b0.lt
      go_wp2_with fail
      refine (spoilL (e0 := 0) S6 g (D2 7 9 a1 a0 false false []) ⟨1, 9⟩ a2 (may1 (p := 7) (q := 9) (by decide) J2.out) (by simp [D2]) w _ bel lv).mono ?_
      rintro e w7 ⟨rfl, S7, lv, gS, kS, bel⟩
      clear b0c0 b0c1 b0c2 b0c3 b0lt
      have mSb0 : ¬ S7 ib0 := fun e => (gS _ e).elim nSb0 (fun e => by have := b0.lt; omega)
      have b0 := b0.keep kS b0.lt nSb0
      have nSb0 := mSb0
      clear mSb0
      have hR := HRW.out.moved bel
      have ln := ln.post gS kS
      clear gS kS
      rw [show (D2 7 9 a1 a0 false false []).spoilAt ⟨1, 9⟩ a2 = D2 7 9 a1 a2 false false [] from spoil1 (p := 7) (q := 9) (by decide) J2.out] at lv
      have b0c0 := b0.cell 0
      have b0c1 := b0.cell 1
      have b0c2 := b0.cell 2
      have b0c3 := b0.cell 3
      simp at b0c0 b0c1 b0c2 b0c3
      have b0lt := b0.lt
      go_wp2_with fail
      refine (bread_to (p := ⟨[⟨0, 7⟩, ⟨1, 9⟩], (a0.length : Int), 3, SH⟩) HR1.out _ hR ln.at_ (lv.rd (by simp [D2]))).mono ?_
      rintro e w8 ⟨rfl, k8⟩
      clear b0c0 b0c1 b0c2 b0c3 b0lt
      have b0 := b0.below k8 b0.lt
      have hR := hR.moved k8
      have lv := lv.below k8
      have ln := ln.below k8
      have bel := hthen bel k8
      clear k8
      have b0c0 := b0.cell 0
      have b0c1 := b0.cell 1
      have b0c2 := b0.cell 2
      have b0c3 := b0.cell 3
      simp at b0c0 b0c1 b0c2 b0c3
      have b0lt := b0.lt
      go_wp2_with fail
      refine (alike_any a1 a0 K1.out K0.out _).mono ?_
      rintro e w9 ⟨rfl, k9⟩
      clear b0c0 b0c1 b0c2 b0c3 b0lt
      have b0 := b0.below k9 b0.lt
      have hR := hR.moved k9
      have lv := lv.below k9
      have ln := ln.below k9
      have bel := hthen bel k9
      clear k9
      rw [HA1.out]
      have b0c0 := b0.cell 0
      have b0c1 := b0.cell 1
      have b0c2 := b0.cell 2
      have b0c3 := b0.cell 3
      simp at b0c0 b0c1 b0c2 b0c3
      have b0lt := b0.lt
      go_wp2_with fail
      refine (alike_any a2 a0 K2.out K0.out _).mono ?_
      rintro e w10 ⟨rfl, k10⟩
      clear b0c0 b0c1 b0c2 b0c3 b0lt
      have b0 := b0.below k10 b0.lt
      have hR := hR.moved k10
      have lv := lv.below k10
      have ln := ln.below k10
      have bel := hthen bel k10
      clear k10
      rw [HA2.out]
      have b0c0 := b0.cell 0
      have b0c1 := b0.cell 1
      have b0c2 := b0.cell 2
      have b0c3 := b0.cell 3
      simp at b0c0 b0c1 b0c2 b0c3
      have b0lt := b0.lt
      go_upto_region 12 with fail
      clear b0c0 b0c1 b0c2 b0c3 b0lt
      obtain ⟨w11, hw11⟩ : ∃ x, w10.alloc (.cells #[.bool true, .bool false] 4) = x := ⟨_, rfl⟩
      obtain ⟨ibs, hibs⟩ : ∃ i, w10.heap.size = i := ⟨_, rfl⟩
      have bs : Blk w11 ibs 4 #[.bool true, .bool false] := by rw [← hw11, ← hibs]; exact Blk.new _ _ _
      have k11 : Below w10.heap.size w10 w11 := by rw [← hw11]; exact (Below.refl _ _).alloc (Nat.le_refl _) _
      have zbs : w11.heap.size = ibs + 1 := by rw [← hw11, ← hibs]; simp
      rw [hw11, hibs]
      have nSbs : ¬ S7 ibs := fun e => by have := lv.o.lt _ e; omega
      have b0 := b0.below k11 b0.lt
      have hR := hR.moved k11
      have lv := lv.below k11
      have ln := ln.below k11
      have bel := hthen bel k11
      clear k11
      clear hw11 hibs
      have b0c0 := b0.cell 0
      have b0c1 := b0.cell 1
      have b0c2 := b0.cell 2
      have b0c3 := b0.cell 3
      simp at b0c0 b0c1 b0c2 b0c3
      have b0lt := b0.lt
      have bsc0 := bs.cell 0
      have bsc1 := bs.cell 1
      simp at bsc0 bsc1
      have bslt := bs.lt
      go_wp2_with fail
      refine (good_row (p := ⟨[⟨0, 7⟩, ⟨1, 9⟩], (a0.length : Int), 3, SH⟩) HG.out _ hR ln.at_ HCK.out (lv.rd (by simp [D2]))).mono ?_
      rintro e w12 ⟨ug, rfl, nr, k12⟩
      clear b0c0 b0c1 b0c2 b0c3 b0lt bsc0 bsc1 bslt
      have b0 := b0.below k12 b0.lt
      have bs := bs.below k12 bs.lt
      have hR := hR.moved k12
      have lv := lv.below k12
      have ln := ln.below k12
      have bel := hthen bel k12
      clear k12
      have b0c0 := b0.cell 0
      have b0c1 := b0.cell 1
      have b0c2 := b0.cell 2
      have b0c3 := b0.cell 3
      simp at b0c0 b0c1 b0c2 b0c3
      have b0lt := b0.lt
      have bsc0 := bs.cell 0
      have bsc1 := bs.cell 1
      simp at bsc0 bsc1
      have bslt := bs.lt
      go_wp2_with fail
      refine (bools_any _ (by simp) _ _ _ nr (litB2 bs)).mono ?_
      rintro e w13 ⟨rfl, k13⟩
      clear b0c0 b0c1 b0c2 b0c3 b0lt bsc0 bsc1 bslt
      have b0 := b0.below k13 b0.lt
      have bs := bs.below k13 bs.lt
      have hR := hR.moved k13
      have lv := lv.below k13
      have ln := ln.below k13
      have nr := nr.below k13
      have bel := hthen bel k13
      clear k13
      clear qg1 qg2 qg3 sz0 sz1 sz2
      have b0c0 := b0.cell 0
      have b0c1 := b0.cell 1
      have b0c2 := b0.cell 2
      have b0c3 := b0.cell 3
      simp at b0c0 b0c1 b0c2 b0c3
      have b0lt := b0.lt
      have bsc0 := bs.cell 0
      have bsc1 := bs.cell 1
      simp at bsc0 bsc1
      have bslt := bs.lt
      go_wp2_with fail
      refine (live_ok _ hR).mono ?_
      rintro e w14 ⟨rfl, k14⟩
      clear b0c0 b0c1 b0c2 b0c3 b0lt bsc0 bsc1 bslt
      have b0 := b0.below k14 b0.lt
      have bs := bs.below k14 bs.lt
      have hR := hR.moved k14
      have lv := lv.below k14
      have ln := ln.below k14
      have nr := nr.below k14
      have bel := hthen bel k14
      clear k14
      go_wp2
      go_ret
      exact ⟨rfl, bel⟩
    · have HR1 : Hid (readB (D2 7 9 a1 a2 false false []).read ⟨[⟨0, 7⟩, ⟨1, 9⟩], (a0.length : Int), 3, SH⟩ = ((a1, 0), 0)) := Lib.hid (hr.trans (by simp))
      clear hr
      go_enter Tryd.func6, Tryd.ntmps6
      go_wp2_with fail
      refine (newL 20 20 (by decide) (by decide) (by decide) (by decide) w w bel).mono ?_
      rintro e w1 ⟨g, S1, rfl, lv, hS0, k0⟩
      have hR := hR.moved k0
      have bel := hthen bel k0
      clear k0
      clear hS0
      go_wp2_with fail
      obtain ⟨w2, hw2⟩ : ∃ x, w1.alloc (.cells #[.int .i64 0, .int .i64 7, .int .i64 1, .int .i64 9] 33) = x := ⟨_, rfl⟩
      obtain ⟨ill, hill⟩ : ∃ i, w1.heap.size = i := ⟨_, rfl⟩
      have ll : Blk w2 ill 33 #[.int .i64 0, .int .i64 7, .int .i64 1, .int .i64 9] := by rw [← hw2, ← hill]; exact Blk.new _ _ _
      have k2 : Below w1.heap.size w1 w2 := by rw [← hw2]; exact (Below.refl _ _).alloc (Nat.le_refl _) _
      have zll : w2.heap.size = ill + 1 := by rw [← hw2, ← hill]; simp
      rw [hw2, hill]
      have nSll : ¬ S1 ill := fun e => by have := lv.o.lt _ e; omega
      have hR := hR.moved k2
      have lv := lv.below k2
      have bel := hthen bel k2
      clear k2
      clear hw2 hill
      have plll : PtOn S1 w2 (.slice (some ⟨ill, 0, none⟩) 2 2) [⟨0, 7⟩, ⟨1, 9⟩] := lit2 ll nSll
      refine (bwr_ok (p := ⟨[⟨0, 7⟩, ⟨1, 9⟩], (a0.length : Int), 3, SH⟩) (load := a0) (birth := 3) HPF.out HCK.out HSZ.out HNG.out HWR.out (by decide) S1 g _ w _ bel hR plll lv).mono ?_
      rintro e w3 ⟨u, S3, rfl, lv, gS, kS, bel, ln⟩
      have mSll : ¬ S3 ill := fun e => (gS _ e).elim nSll (fun e => by have := ll.lt; omega)
      have ll := ll.keep kS ll.lt nSll
      have nSll := mSll
      clear mSll
      have hR := HRW.out.moved bel
      clear gS kS
      obtain ⟨A, c, rfl, -, -⟩ := ln.at_.form
      go_upto_region 7 with fail
      have ln : PtOn _ _ (.slice A 2 c) [⟨0, 7⟩, ⟨1, 9⟩] := ln
      have lv : Lv w _ _ g (D2 7 9 [] [] false false [⟨⟨0, 7⟩, a0⟩, ⟨⟨1, 9⟩, a0⟩]) := lv
      obtain ⟨w4, hw4⟩ : ∃ x, w3.alloc (.cells #[.slice A 2 c, .int .i64 a0.length, .int .i64 3, .string (bstr SH)] 25) = x := ⟨_, rfl⟩
      obtain ⟨ib0, hib0⟩ : ∃ i, w3.heap.size = i := ⟨_, rfl⟩
      have b0 : Blk w4 ib0 25 #[.slice A 2 c, .int .i64 a0.length, .int .i64 3, .string (bstr SH)] := by rw [← hw4, ← hib0]; exact Blk.new _ _ _
      have k4 : Below w3.heap.size w3 w4 := by rw [← hw4]; exact (Below.refl _ _).alloc (Nat.le_refl _) _
      have zb0 : w4.heap.size = ib0 + 1 := by rw [← hw4, ← hib0]; simp
      rw [hw4, hib0]
      have nSb0 : ¬ S3 ib0 := fun e => by have := lv.o.lt _ e; omega
      have hR := hR.moved k4
      have lv := lv.below k4
      have ln := ln.below k4
      have bel := hthen bel k4
      clear k4
      clear hw4 hib0
      have b0c0 := b0.cell 0
      have b0c1 := b0.cell 1
      have b0c2 := b0.cell 2
      have b0c3 := b0.cell 3
      simp at b0c0 b0c1 b0c2 b0c3
      have b0lt := b0.lt
      go_wp2_with fail
      refine (flushL S3 g _ (by simp [D2]) w _ bel lv).mono ?_
      rintro e w5 ⟨rfl, S5, lv, gS, kS, bel⟩
      clear b0c0 b0c1 b0c2 b0c3 b0lt
      have mSb0 : ¬ S5 ib0 := fun e => (gS _ e).elim nSb0 (fun e => by have := b0.lt; omega)
      have b0 := b0.keep kS b0.lt nSb0
      have nSb0 := mSb0
      clear mSb0
      have hR := HRW.out.moved bel
      have ln := ln.post gS kS
      clear gS kS
      rw [show (D2 7 9 [] [] false false [⟨⟨0, 7⟩, a0⟩, ⟨⟨1, 9⟩, a0⟩]).flush = D2 7 9 a0 a0 false false [] from flush2 (p := 7) (q := 9)] at lv
      have b0c0 := b0.cell 0
      have b0c1 := b0.cell 1
      have b0c2 := b0.cell 2
      have b0c3 := b0.cell 3
      simp at b0c0 b0c1 b0c2 b0c3
      have b0lt := b0.lt
      go_wp2_with fail
      refine (spoilL (e0 := 0) S5 g (D2 7 9 a0 a0 false false []) ⟨0, 7⟩ a1 (may0 (p := 7) (q := 9) (by decide) J1.out) (by simp [D2]) w _ bel lv).mono ?_
      rintro e w6 ⟨rfl, S6, lv, gS, kS, bel⟩
      clear b0c0 b0c1 b0c2 b0c3 b0lt
      have mSb0 : ¬ S6 ib0 := fun e => (gS _ e).elim nSb0 (fun e => by have := b0.lt; omega)
      have b0 := b0.keep kS b0.lt nSb0
      have nSb0 := mSb0
      clear mSb0
      have hR := HRW.out.moved bel
      have ln := ln.post gS kS
      clear gS kS
      rw [show (D2 7 9 a0 a0 false false []).spoilAt ⟨0, 7⟩ a1 = D2 7 9 a1 a0 false false [] from spoil0 (p := 7) (q := 9) (by decide) J1.out] at lv
      have b0c0 := b0.cell 0
      have b0c1 := b0.cell 1
      have b0c2 := b0.cell 2
      have b0c3 := b0.cell 3
      simp at b0c0 b0c1 b0c2 b0c3
      have b0lt := b0.lt
      go_wp2_with fail
      refine (spoilL (e0 := 0) S6 g (D2 7 9 a1 a0 false false []) ⟨1, 9⟩ a2 (may1 (p := 7) (q := 9) (by decide) J2.out) (by simp [D2]) w _ bel lv).mono ?_
      rintro e w7 ⟨rfl, S7, lv, gS, kS, bel⟩
      clear b0c0 b0c1 b0c2 b0c3 b0lt
      have mSb0 : ¬ S7 ib0 := fun e => (gS _ e).elim nSb0 (fun e => by have := b0.lt; omega)
      have b0 := b0.keep kS b0.lt nSb0
      have nSb0 := mSb0
      clear mSb0
      have hR := HRW.out.moved bel
      have ln := ln.post gS kS
      clear gS kS
      rw [show (D2 7 9 a1 a0 false false []).spoilAt ⟨1, 9⟩ a2 = D2 7 9 a1 a2 false false [] from spoil1 (p := 7) (q := 9) (by decide) J2.out] at lv
      have b0c0 := b0.cell 0
      have b0c1 := b0.cell 1
      have b0c2 := b0.cell 2
      have b0c3 := b0.cell 3
      simp at b0c0 b0c1 b0c2 b0c3
      have b0lt := b0.lt
      go_wp2_with fail
      refine (bread_to (p := ⟨[⟨0, 7⟩, ⟨1, 9⟩], (a0.length : Int), 3, SH⟩) HR1.out _ hR ln.at_ (lv.rd (by simp [D2]))).mono ?_
      rintro e w8 ⟨rfl, k8⟩
      clear b0c0 b0c1 b0c2 b0c3 b0lt
      have b0 := b0.below k8 b0.lt
      have hR := hR.moved k8
      have lv := lv.below k8
      have ln := ln.below k8
      have bel := hthen bel k8
      clear k8
      have b0c0 := b0.cell 0
      have b0c1 := b0.cell 1
      have b0c2 := b0.cell 2
      have b0c3 := b0.cell 3
      simp at b0c0 b0c1 b0c2 b0c3
      have b0lt := b0.lt
      go_wp2_with fail
      refine (alike_any a1 a0 K1.out K0.out _).mono ?_
      rintro e w9 ⟨rfl, k9⟩
      clear b0c0 b0c1 b0c2 b0c3 b0lt
      have b0 := b0.below k9 b0.lt
      have hR := hR.moved k9
      have lv := lv.below k9
      have ln := ln.below k9
      have bel := hthen bel k9
      clear k9
      rw [HA1.out]
      have b0c0 := b0.cell 0
      have b0c1 := b0.cell 1
      have b0c2 := b0.cell 2
      have b0c3 := b0.cell 3
      simp at b0c0 b0c1 b0c2 b0c3
      have b0lt := b0.lt
      go_wp2_with fail
      refine (alike_any a2 a0 K2.out K0.out _).mono ?_
      rintro e w10 ⟨rfl, k10⟩
      clear b0c0 b0c1 b0c2 b0c3 b0lt
      have b0 := b0.below k10 b0.lt
      have hR := hR.moved k10
      have lv := lv.below k10
      have ln := ln.below k10
      have bel := hthen bel k10
      clear k10
      rw [HA2.out]
      have b0c0 := b0.cell 0
      have b0c1 := b0.cell 1
      have b0c2 := b0.cell 2
      have b0c3 := b0.cell 3
      simp at b0c0 b0c1 b0c2 b0c3
      have b0lt := b0.lt
      go_upto_region 12 with fail
      clear b0c0 b0c1 b0c2 b0c3 b0lt
      obtain ⟨w11, hw11⟩ : ∃ x, w10.alloc (.cells #[.bool true, .bool true] 4) = x := ⟨_, rfl⟩
      obtain ⟨ibs, hibs⟩ : ∃ i, w10.heap.size = i := ⟨_, rfl⟩
      have bs : Blk w11 ibs 4 #[.bool true, .bool true] := by rw [← hw11, ← hibs]; exact Blk.new _ _ _
      have k11 : Below w10.heap.size w10 w11 := by rw [← hw11]; exact (Below.refl _ _).alloc (Nat.le_refl _) _
      have zbs : w11.heap.size = ibs + 1 := by rw [← hw11, ← hibs]; simp
      rw [hw11, hibs]
      have nSbs : ¬ S7 ibs := fun e => by have := lv.o.lt _ e; omega
      have b0 := b0.below k11 b0.lt
      have hR := hR.moved k11
      have lv := lv.below k11
      have ln := ln.below k11
      have bel := hthen bel k11
      clear k11
      clear hw11 hibs
      have b0c0 := b0.cell 0
      have b0c1 := b0.cell 1
      have b0c2 := b0.cell 2
      have b0c3 := b0.cell 3
      simp at b0c0 b0c1 b0c2 b0c3
      have b0lt := b0.lt
      have bsc0 := bs.cell 0
      have bsc1 := bs.cell 1
      simp at bsc0 bsc1
      have bslt := bs.lt
      go_wp2_with fail
      refine (good_row (p := ⟨[⟨0, 7⟩, ⟨1, 9⟩], (a0.length : Int), 3, SH⟩) HG.out _ hR ln.at_ HCK.out (lv.rd (by simp [D2]))).mono ?_
      rintro e w12 ⟨ug, rfl, nr, k12⟩
      clear b0c0 b0c1 b0c2 b0c3 b0lt bsc0 bsc1 bslt
      have b0 := b0.below k12 b0.lt
      have bs := bs.below k12 bs.lt
      have hR := hR.moved k12
      have lv := lv.below k12
      have ln := ln.below k12
      have bel := hthen bel k12
      clear k12
      have b0c0 := b0.cell 0
      have b0c1 := b0.cell 1
      have b0c2 := b0.cell 2
      have b0c3 := b0.cell 3
      simp at b0c0 b0c1 b0c2 b0c3
      have b0lt := b0.lt
      have bsc0 := bs.cell 0
      have bsc1 := bs.cell 1
      simp at bsc0 bsc1
      have bslt := bs.lt
      go_wp2_with fail
      refine (bools_any _ (by simp) _ _ _ nr (litB2 bs)).mono ?_
      rintro e w13 ⟨rfl, k13⟩
      clear b0c0 b0c1 b0c2 b0c3 b0lt bsc0 bsc1 bslt
      have b0 := b0.below k13 b0.lt
      have bs := bs.below k13 bs.lt
      have hR := hR.moved k13
      have lv := lv.below k13
      have ln := ln.below k13
      have nr := nr.below k13
      have bel := hthen bel k13
      clear k13
      clear qg1 qg2 qg3 sz0 sz1 sz2
      have b0c0 := b0.cell 0
      have b0c1 := b0.cell 1
      have b0c2 := b0.cell 2
      have b0c3 := b0.cell 3
      simp at b0c0 b0c1 b0c2 b0c3
      have b0lt := b0.lt
      have bsc0 := bs.cell 0
      have bsc1 := bs.cell 1
      simp at bsc0 bsc1
      have bslt := bs.lt
      go_wp2_with fail
      refine (live_ok _ hR).mono ?_
      rintro e w14 ⟨rfl, k14⟩
      clear b0c0 b0c1 b0c2 b0c3 b0lt bsc0 bsc1 bslt
      have b0 := b0.below k14 b0.lt
      have bs := bs.below k14 bs.lt
      have hR := hR.moved k14
      have lv := lv.below k14
      have ln := ln.below k14
      have nr := nr.below k14
      have bel := hthen bel k14
      clear k14
      go_wp2
      go_ret
      exact ⟨rfl, bel⟩
end Go.Proofs.YtmdjbmhjnajpgaaDoor
