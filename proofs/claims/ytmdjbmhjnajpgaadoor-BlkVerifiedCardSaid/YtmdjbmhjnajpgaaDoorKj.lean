/- The laws of blk: live. -/
import Derived.Test.YtmdjbmhjnajpgaaDoorKi
namespace Go.Proofs.YtmdjbmhjnajpgaaDoor
open Go Go.RowKit
set_option linter.unusedSimpArgs false
set_option linter.unnecessarySimpa false
set_option linter.unusedVariables false

theorem lit2 {S : Nat → Prop} {w : World} {g : Nat} {a b : Lc} (h : Blk w g 33 #[.int .i64 a.dev, .int .i64 a.pos, .int .i64 b.dev, .int .i64 b.pos]) (hS : ¬ S g) : PtOn S w (.slice (some ⟨g, 0, none⟩) 2 2) [a, b] := by
  refine ⟨some ⟨g, 0, none⟩, 2, rfl, Nat.le_refl _, by decide, fun _ => ⟨_, rfl, ⟨h.lt, hS⟩, fun i hi => ?_⟩⟩
  have c0 := h.cell 0
  have c1 := h.cell 1
  have c2 := h.cell 2
  have c3 := h.cell 3
  simp at c0 c1 c2 c3
  have hi2 : i < 2 := hi
  rcases (show i = 0 ∨ i = 1 by omega) with rfl | rfl
  · exact ⟨c0, by simpa [Addr.add] using c1⟩
  · exact ⟨by simpa [Addr.add] using c2, by simpa [Addr.add] using c3⟩
theorem lit1 {S : Nat → Prop} {w : World} {g : Nat} {a : Lc} (h : Blk w g 33 #[.int .i64 a.dev, .int .i64 a.pos]) (hS : ¬ S g) : PtOn S w (.slice (some ⟨g, 0, none⟩) 1 1) [a] := by
  refine ⟨some ⟨g, 0, none⟩, 1, rfl, Nat.le_refl _, by decide, fun _ => ⟨_, rfl, ⟨h.lt, hS⟩, fun i hi => ?_⟩⟩
  have c0 := h.cell 0
  have c1 := h.cell 1
  simp at c0 c1
  have hi2 : i < 1 := hi
  obtain rfl : i = 0 := by omega
  exact ⟨c0, by simpa [Addr.add] using c1⟩
theorem RowB.below {w w' : World} {v : Value} {l : List Bool} (h : RowB w v l) (k : Below w.heap.size w w') : RowB w' v l := by
  obtain ⟨A, c, e, hx⟩ := h
  refine ⟨A, c, e, fun h0 => ?_⟩
  obtain ⟨ad, e, hc⟩ := hx h0
  exact ⟨ad, e, fun i hi => (k.cell (cell_lt2 (hc i hi))).trans (hc i hi)⟩
theorem good_row {dp : Option Addr} {v : Value} {rd : Lc → List UInt8 × Int} {p : Pt} {l : List Bool} (hgl : goodsL rd p = l) (w : World) (hR : RootsAt w) (hv : LocsAt w.heap.size w v p.locs) (hck : ckE p = 0) (hrd : ∀ T : Nat → Prop, (∀ j, T j → w.heap.size ≤ j) → Reads (.pointer dp) rd T w) :
    Calls Tryd.prog 19 #[.pointer dp, .agg #[v, .int .i64 p.len, .int .i64 p.birth, .string (bstr p.sum)]] w fun e w' => ∃ u, e = .returned u ∧ RowB w' u l ∧ Below w.heap.size w w' := by
  refine (good_any dp v rd p w hR hv hck hrd).mono ?_
  rintro e w' ⟨u, rfl, h1, h2⟩
  subst hgl
  have hl : (goodsL rd p).length = p.locs.length := by simp [goodsL]
  rw [← hl] at h1
  exact ⟨u, rfl, RowB.of_row h1, h2⟩
theorem litB2 {w : World} {g : Nat} {a b : Bool} (h : Blk w g 4 #[.bool a, .bool b]) : RowB w (.slice (some ⟨g, 0, none⟩) 2 2) [a, b] := by
  have c0 := h.cell 0
  have c1 := h.cell 1
  simp at c0 c1
  refine ⟨some ⟨g, 0, none⟩, 2, rfl, fun _ => ⟨_, rfl, fun i hi => ?_⟩⟩
  have hi2 : i < 2 := hi
  rcases (show i = 0 ∨ i = 1 by omega) with rfl | rfl
  · exact c0
  · simpa [Addr.add] using c1
theorem h_sizes : ∀ l ∈ PH.locs, l.pos < if isB l.dev then (((Dv.new 20 20).sec l.dev).length : Int) else 0 := by decide
theorem h_ngone : PH.locs.any (goneL (Dv.new 20 20)) = false := by decide
theorem a_sizes : ∀ l ∈ PA.locs, l.pos < if isB l.dev then ((dh3.sec l.dev).length : Int) else 0 := by decide
theorem a_gone : PA.locs.any (goneL dh3) = true := by decide
theorem may_h : mayE (D2 4 3 [] [] false false [⟨⟨1, 3⟩, helloT⟩, ⟨⟨0, 4⟩, helloT⟩]) ⟨1, 3⟩ [120] = 0 := may1 (p := 4) (q := 3) (by decide) (by decide)

set_option maxRecDepth 100000 in
set_option maxHeartbeats 8000000 in
theorem live_ok (w : World) (hR : RootsAt w) : Calls Tryd.prog 8 #[] w fun e w' => e = .returned (.bool true) ∧ Below w.heap.size w w' := by
  have HRW := Lib.hid hR
  have bel : Below w.heap.size w w := Below.refl _ _
  obtain ⟨p, hp⟩ : ∃ p, PH = p := ⟨_, rfl⟩
  obtain ⟨SH, hSH⟩ : ∃ x, shaL helloT = x := ⟨_, rfl⟩
  have e1 : p = ⟨[⟨1, 3⟩, ⟨0, 4⟩], 5, 7, SH⟩ := by rw [← hp, ← hSH]; rfl
  subst e1
  have HPF := Lib.hid (show (⟨[⟨1, 3⟩, ⟨0, 4⟩], 5, 7, SH⟩ : Pt) = ⟨[⟨1, 3⟩, ⟨0, 4⟩], helloT.length, 7, shaL helloT⟩ by rw [hSH]; rfl)
  have HCK := Lib.hid (hp ▸ PH_ok)
  have HSZ := Lib.hid (hp ▸ h_sizes)
  have HNG := Lib.hid (hp ▸ h_ngone)
  have HWR := Lib.hid (hp ▸ h_written)
  have HR1 := Lib.hid (hp ▸ h_r1)
  have HM1 := Lib.hid (hp ▸ h_m1)
  have HR2 := Lib.hid (hp ▸ h_r2)
  have HR3 := Lib.hid (hp ▸ h_r3)
  have HGD := Lib.hid (hp ▸ h_goods)
  clear hp hSH
  go_enter Tryd.func8, Tryd.ntmps8
  go_wp2_with fail
  refine (newL 20 20 (by decide) (by decide) (by decide) (by decide) w w bel).mono ?_
  rintro e w1 ⟨g, S1, rfl, lv, hS0, k0⟩
  have hR := hR.moved k0
  have bel := hthen bel k0
  clear k0
  clear hS0
  go_wp2_with fail
  obtain ⟨w2, hw2⟩ : ∃ x, w1.alloc (.cells #[.int .i64 1, .int .i64 3, .int .i64 0, .int .i64 4] 33) = x := ⟨_, rfl⟩
  obtain ⟨ill, hill⟩ : ∃ i, w1.heap.size = i := ⟨_, rfl⟩
  have ll : Blk w2 ill 33 #[.int .i64 1, .int .i64 3, .int .i64 0, .int .i64 4] := by rw [← hw2, ← hill]; exact Blk.new _ _ _
  have k2 : Below w1.heap.size w1 w2 := by rw [← hw2]; exact (Below.refl _ _).alloc (Nat.le_refl _) _
  have zll : w2.heap.size = ill + 1 := by rw [← hw2, ← hill]; simp
  rw [hw2, hill]
  have nSll : ¬ S1 ill := fun e => by have := lv.o.lt _ e; omega
  have hR := hR.moved k2
  have lv := lv.below k2
  have bel := hthen bel k2
  clear k2
  clear hw2 hill
  have plll : PtOn S1 w2 (.slice (some ⟨ill, 0, none⟩) 2 2) [⟨1, 3⟩, ⟨0, 4⟩] := lit2 ll nSll
  refine (bwr_ok (p := ⟨[⟨1, 3⟩, ⟨0, 4⟩], 5, 7, SH⟩) (load := helloT) (birth := 7) HPF.out HCK.out HSZ.out HNG.out HWR.out (by decide) S1 g _ w _ bel hR plll lv).mono ?_
  rintro e w3 ⟨u, S3, rfl, lv, gS, kS, bel, ln⟩
  have mSll : ¬ S3 ill := fun e => (gS _ e).elim nSll (fun e => by have := ll.lt; omega)
  have ll := ll.keep kS ll.lt nSll
  have nSll := mSll
  clear mSll
  have hR := HRW.out.moved bel
  clear gS kS
  obtain ⟨A, c, rfl, -, -⟩ := ln.at_.form
  go_upto_region 5 with fail
  have ln : PtOn _ _ (.slice A 2 c) [⟨1, 3⟩, ⟨0, 4⟩] := ln
  obtain ⟨w4, hw4⟩ : ∃ x, w3.alloc (.cells #[.slice A 2 c, .int .i64 5, .int .i64 7, .string (bstr SH)] 25) = x := ⟨_, rfl⟩
  obtain ⟨ib0, hib0⟩ : ∃ i, w3.heap.size = i := ⟨_, rfl⟩
  have b0 : Blk w4 ib0 25 #[.slice A 2 c, .int .i64 5, .int .i64 7, .string (bstr SH)] := by rw [← hw4, ← hib0]; exact Blk.new _ _ _
  have k4 : Below w3.heap.size w3 w4 := by rw [← hw4]; exact (Below.refl _ _).alloc (Nat.le_refl _) _
  have zb0 : w4.heap.size = ib0 + 1 := by rw [← hw4, ← hib0]; simp
  rw [hw4, hib0]
  have nSb0 : ¬ S3 ib0 := fun e => by have := lv.o.lt _ e; omega
  have hR := hR.moved k4
  have lv := lv.below k4
  have ln := ln.below k4
  have bel := hthen bel k4
  clear k4
  clear hw4 hib0
  have b0c0 := b0.cell 0
  have b0c1 := b0.cell 1
  have b0c2 := b0.cell 2
  have b0c3 := b0.cell 3
  simp at b0c0 b0c1 b0c2 b0c3
  have b0lt := b0.lt
  go_wp2_with fail
  refine (spoilL (e0 := 0) S3 g (D2 4 3 [] [] false false [⟨⟨1, 3⟩, helloT⟩, ⟨⟨0, 4⟩, helloT⟩]) ⟨1, 3⟩ [120] may_h (by decide) w _ bel lv).mono ?_
  rintro e w5 ⟨rfl, S5, lv, gS, kS, bel⟩
  clear b0c0 b0c1 b0c2 b0c3 b0lt
  have mSb0 : ¬ S5 ib0 := fun e => (gS _ e).elim nSb0 (fun e => by have := b0.lt; omega)
  have b0 := b0.keep kS b0.lt nSb0
  have nSb0 := mSb0
  clear mSb0
  have hR := HRW.out.moved bel
  have ln := ln.post gS kS
  clear gS kS
  rw [h_spoilt] at lv
  have b0c0 := b0.cell 0
  have b0c1 := b0.cell 1
  have b0c2 := b0.cell 2
  have b0c3 := b0.cell 3
  simp at b0c0 b0c1 b0c2 b0c3
  have b0lt := b0.lt
  go_wp2_with fail
  refine (bread_to (p := ⟨[⟨1, 3⟩, ⟨0, 4⟩], 5, 7, SH⟩) HR1.out _ hR ln.at_ (lv.rd (by decide))).mono ?_
  rintro e w6 ⟨rfl, k6⟩
  clear b0c0 b0c1 b0c2 b0c3 b0lt
  have b0 := b0.below k6 b0.lt
  have hR := hR.moved k6
  have lv := lv.below k6
  have ln := ln.below k6
  have bel := hthen bel k6
  clear k6
  have b0c0 := b0.cell 0
  have b0c1 := b0.cell 1
  have b0c2 := b0.cell 2
  have b0c3 := b0.cell 3
  simp at b0c0 b0c1 b0c2 b0c3
  have b0lt := b0.lt
  go_wp2_with fail
  refine (mend_to (p := ⟨[⟨1, 3⟩, ⟨0, 4⟩], 5, 7, SH⟩) HR1.out HM1.out (by decide) S5 g _ w _ bel hR ln lv).mono ?_
  rintro e w7 ⟨rfl, S7, lv, gS, kS, bel⟩
  clear b0c0 b0c1 b0c2 b0c3 b0lt
  have mSb0 : ¬ S7 ib0 := fun e => (gS _ e).elim nSb0 (fun e => by have := b0.lt; omega)
  have b0 := b0.keep kS b0.lt nSb0
  have nSb0 := mSb0
  clear mSb0
  have hR := HRW.out.moved bel
  have ln := ln.post gS kS
  clear gS kS
  have b0c0 := b0.cell 0
  have b0c1 := b0.cell 1
  have b0c2 := b0.cell 2
  have b0c3 := b0.cell 3
  simp at b0c0 b0c1 b0c2 b0c3
  have b0lt := b0.lt
  go_wp2_with fail
  refine (bread_to (p := ⟨[⟨1, 3⟩, ⟨0, 4⟩], 5, 7, SH⟩) HR2.out _ hR ln.at_ (lv.rd (by decide))).mono ?_
  rintro e w8 ⟨rfl, k8⟩
  clear b0c0 b0c1 b0c2 b0c3 b0lt
  have b0 := b0.below k8 b0.lt
  have hR := hR.moved k8
  have lv := lv.below k8
  have ln := ln.below k8
  have bel := hthen bel k8
  clear k8
  have b0c0 := b0.cell 0
  have b0c1 := b0.cell 1
  have b0c2 := b0.cell 2
  have b0c3 := b0.cell 3
  simp at b0c0 b0c1 b0c2 b0c3
  have b0lt := b0.lt
  go_wp2_with fail
  refine (loseL (e0 := 0) S7 g dh2 1 rfl (by decide) w _ bel lv).mono ?_
  rintro e w9 ⟨rfl, S9, lv, gS, kS, bel⟩
  clear b0c0 b0c1 b0c2 b0c3 b0lt
  have mSb0 : ¬ S9 ib0 := fun e => (gS _ e).elim nSb0 (fun e => by have := b0.lt; omega)
  have b0 := b0.keep kS b0.lt nSb0
  have nSb0 := mSb0
  clear mSb0
  have hR := HRW.out.moved bel
  have ln := ln.post gS kS
  clear gS kS
  rw [h_l1] at lv
  have b0c0 := b0.cell 0
  have b0c1 := b0.cell 1
  have b0c2 := b0.cell 2
  have b0c3 := b0.cell 3
  simp at b0c0 b0c1 b0c2 b0c3
  have b0lt := b0.lt
  go_wp2_with fail
  refine (loseL (e0 := 0) S9 g (D2 4 3 [] [] false true [⟨⟨0, 4⟩, helloT⟩]) 0 rfl (by decide) w _ bel lv).mono ?_
  rintro e w10 ⟨rfl, S10, lv, gS, kS, bel⟩
  clear b0c0 b0c1 b0c2 b0c3 b0lt
  have mSb0 : ¬ S10 ib0 := fun e => (gS _ e).elim nSb0 (fun e => by have := b0.lt; omega)
  have b0 := b0.keep kS b0.lt nSb0
  have nSb0 := mSb0
  clear mSb0
  have hR := HRW.out.moved bel
  have ln := ln.post gS kS
  clear gS kS
  rw [h_l0] at lv
  have b0c0 := b0.cell 0
  have b0c1 := b0.cell 1
  have b0c2 := b0.cell 2
  have b0c3 := b0.cell 3
  simp at b0c0 b0c1 b0c2 b0c3
  have b0lt := b0.lt
  go_wp2_with fail
  refine (bread_to (p := ⟨[⟨1, 3⟩, ⟨0, 4⟩], 5, 7, SH⟩) HR3.out _ hR ln.at_ (lv.rd (by decide))).mono ?_
  rintro e w11 ⟨rfl, k11⟩
  clear b0c0 b0c1 b0c2 b0c3 b0lt
  have b0 := b0.below k11 b0.lt
  have hR := hR.moved k11
  have lv := lv.below k11
  have ln := ln.below k11
  have bel := hthen bel k11
  clear k11
  have b0c0 := b0.cell 0
  have b0c1 := b0.cell 1
  have b0c2 := b0.cell 2
  have b0c3 := b0.cell 3
  simp at b0c0 b0c1 b0c2 b0c3
  have b0lt := b0.lt
  go_wp2_with fail
  clear b0c0 b0c1 b0c2 b0c3 b0lt
  obtain ⟨w12, hw12⟩ : ∃ x, w11.alloc (.cells #[.int .i64 0, .int .i64 1] 33) = x := ⟨_, rfl⟩
  obtain ⟨ilm, hilm⟩ : ∃ i, w11.heap.size = i := ⟨_, rfl⟩
  have lm : Blk w12 ilm 33 #[.int .i64 0, .int .i64 1] := by rw [← hw12, ← hilm]; exact Blk.new _ _ _
  have k12 : Below w11.heap.size w11 w12 := by rw [← hw12]; exact (Below.refl _ _).alloc (Nat.le_refl _) _
  have zlm : w12.heap.size = ilm + 1 := by rw [← hw12, ← hilm]; simp
  rw [hw12, hilm]
  have nSlm : ¬ S10 ilm := fun e => by have := lv.o.lt _ e; omega
  have b0 := b0.below k12 b0.lt
  have hR := hR.moved k12
  have lv := lv.below k12
  have ln := ln.below k12
  have bel := hthen bel k12
  clear k12
  clear hw12 hilm
  have pllm : PtOn S10 w12 (.slice (some ⟨ilm, 0, none⟩) 1 1) [⟨0, 1⟩] := lit1 lm nSlm
  refine (bwr_gone (p := PA) (load := [97]) (birth := 0) rfl PA_ok a_sizes a_gone (by decide) S10 g _ w _ bel hR pllm lv).mono ?_
  rintro e w13 ⟨rfl, k13⟩
  have b0 := b0.below k13 b0.lt
  have lm := lm.below k13 lm.lt
  have hR := hR.moved k13
  have lv := lv.below k13
  have ln := ln.below k13
  have bel := hthen bel k13
  clear k13
  have b0c0 := b0.cell 0
  have b0c1 := b0.cell 1
  have b0c2 := b0.cell 2
  have b0c3 := b0.cell 3
  simp at b0c0 b0c1 b0c2 b0c3
  have b0lt := b0.lt
  go_upto_region 13 with fail
  clear b0c0 b0c1 b0c2 b0c3 b0lt
  obtain ⟨w14, hw14⟩ : ∃ x, w13.alloc (.cells #[.slice none 0 0, .int .i64 0, .int .i64 0, .string ⟨#[]⟩] 25) = x := ⟨_, rfl⟩
  obtain ⟨ib1, hib1⟩ : ∃ i, w13.heap.size = i := ⟨_, rfl⟩
  have b1 : Blk w14 ib1 25 #[.slice none 0 0, .int .i64 0, .int .i64 0, .string ⟨#[]⟩] := by rw [← hw14, ← hib1]; exact Blk.new _ _ _
  have k14 : Below w13.heap.size w13 w14 := by rw [← hw14]; exact (Below.refl _ _).alloc (Nat.le_refl _) _
  have zb1 : w14.heap.size = ib1 + 1 := by rw [← hw14, ← hib1]; simp
  rw [hw14, hib1]
  have nSb1 : ¬ S10 ib1 := fun e => by have := lv.o.lt _ e; omega
  have b0 := b0.below k14 b0.lt
  have hR := hR.moved k14
  have lv := lv.below k14
  have ln := ln.below k14
  have bel := hthen bel k14
  clear k14
  clear hw14 hib1
  have b0c0 := b0.cell 0
  have b0c1 := b0.cell 1
  have b0c2 := b0.cell 2
  have b0c3 := b0.cell 3
  simp at b0c0 b0c1 b0c2 b0c3
  have b0lt := b0.lt
  have b1c0 := b1.cell 0
  have b1c1 := b1.cell 1
  have b1c2 := b1.cell 2
  have b1c3 := b1.cell 3
  simp at b1c0 b1c1 b1c2 b1c3
  have b1lt := b1.lt
  go_wp2_with fail
  refine (write_no (some ⟨g, 0, none⟩) [97] 0 (by decide) _ hR).mono ?_
  rintro e w15 ⟨rfl, k15⟩
  clear b0c0 b0c1 b0c2 b0c3 b0lt b1c0 b1c1 b1c2 b1c3 b1lt
  have b0 := b0.below k15 b0.lt
  have b1 := b1.below k15 b1.lt
  have hR := hR.moved k15
  have lv := lv.below k15
  have ln := ln.below k15
  have bel := hthen bel k15
  clear k15
  have b0c0 := b0.cell 0
  have b0c1 := b0.cell 1
  have b0c2 := b0.cell 2
  have b0c3 := b0.cell 3
  simp at b0c0 b0c1 b0c2 b0c3
  have b0lt := b0.lt
  have b1c0 := b1.cell 0
  have b1c1 := b1.cell 1
  have b1c2 := b1.cell 2
  have b1c3 := b1.cell 3
  simp at b1c0 b1c1 b1c2 b1c3
  have b1lt := b1.lt
  go_upto_region 14 with fail
  clear b0c0 b0c1 b0c2 b0c3 b0lt b1c0 b1c1 b1c2 b1c3 b1lt
  obtain ⟨w16, hw16⟩ : ∃ x, w15.alloc (.cells #[.slice none 0 0, .int .i64 0, .int .i64 0, .string ⟨#[]⟩] 25) = x := ⟨_, rfl⟩
  obtain ⟨ib2, hib2⟩ : ∃ i, w15.heap.size = i := ⟨_, rfl⟩
  have b2 : Blk w16 ib2 25 #[.slice none 0 0, .int .i64 0, .int .i64 0, .string ⟨#[]⟩] := by rw [← hw16, ← hib2]; exact Blk.new _ _ _
  have k16 : Below w15.heap.size w15 w16 := by rw [← hw16]; exact (Below.refl _ _).alloc (Nat.le_refl _) _
  have zb2 : w16.heap.size = ib2 + 1 := by rw [← hw16, ← hib2]; simp
  rw [hw16, hib2]
  have nSb2 : ¬ S10 ib2 := fun e => by have := lv.o.lt _ e; omega
  have b0 := b0.below k16 b0.lt
  have b1 := b1.below k16 b1.lt
  have hR := hR.moved k16
  have lv := lv.below k16
  have ln := ln.below k16
  have bel := hthen bel k16
  clear k16
  clear hw16 hib2
  have b0c0 := b0.cell 0
  have b0c1 := b0.cell 1
  have b0c2 := b0.cell 2
  have b0c3 := b0.cell 3
  simp at b0c0 b0c1 b0c2 b0c3
  have b0lt := b0.lt
  have b1c0 := b1.cell 0
  have b1c1 := b1.cell 1
  have b1c2 := b1.cell 2
  have b1c3 := b1.cell 3
  simp at b1c0 b1c1 b1c2 b1c3
  have b1lt := b1.lt
  have b2c0 := b2.cell 0
  have b2c1 := b2.cell 1
  have b2c2 := b2.cell 2
  have b2c3 := b2.cell 3
  simp at b2c0 b2c1 b2c2 b2c3
  have b2lt := b2.lt
  go_wp2_with fail
  refine (good_row (p := ⟨[⟨1, 3⟩, ⟨0, 4⟩], 5, 7, SH⟩) HGD.out _ hR ln.at_ HCK.out (lv.rd (by decide))).mono ?_
  rintro e w17 ⟨ug, rfl, lnr, k17⟩
  clear b0c0 b0c1 b0c2 b0c3 b0lt b1c0 b1c1 b1c2 b1c3 b1lt b2c0 b2c1 b2c2 b2c3 b2lt
  have b0 := b0.below k17 b0.lt
  have b1 := b1.below k17 b1.lt
  have b2 := b2.below k17 b2.lt
  have hR := hR.moved k17
  have lv := lv.below k17
  have ln := ln.below k17
  have bel := hthen bel k17
  clear k17
  have nr := lnr
  clear lnr
  have b0c0 := b0.cell 0
  have b0c1 := b0.cell 1
  have b0c2 := b0.cell 2
  have b0c3 := b0.cell 3
  simp at b0c0 b0c1 b0c2 b0c3
  have b0lt := b0.lt
  have b1c0 := b1.cell 0
  have b1c1 := b1.cell 1
  have b1c2 := b1.cell 2
  have b1c3 := b1.cell 3
  simp at b1c0 b1c1 b1c2 b1c3
  have b1lt := b1.lt
  have b2c0 := b2.cell 0
  have b2c1 := b2.cell 1
  have b2c2 := b2.cell 2
  have b2c3 := b2.cell 3
  simp at b2c0 b2c1 b2c2 b2c3
  have b2lt := b2.lt
  go_wp2_with fail
  clear b0c0 b0c1 b0c2 b0c3 b0lt b1c0 b1c1 b1c2 b1c3 b1lt b2c0 b2c1 b2c2 b2c3 b2lt
  obtain ⟨w18, hw18⟩ : ∃ x, w17.alloc (.cells #[.bool false, .bool false] 4) = x := ⟨_, rfl⟩
  obtain ⟨ibs, hibs⟩ : ∃ i, w17.heap.size = i := ⟨_, rfl⟩
  have bs : Blk w18 ibs 4 #[.bool false, .bool false] := by rw [← hw18, ← hibs]; exact Blk.new _ _ _
  have k18 : Below w17.heap.size w17 w18 := by rw [← hw18]; exact (Below.refl _ _).alloc (Nat.le_refl _) _
  have zbs : w18.heap.size = ibs + 1 := by rw [← hw18, ← hibs]; simp
  rw [hw18, hibs]
  have nSbs : ¬ S10 ibs := fun e => by have := lv.o.lt _ e; omega
  have b0 := b0.below k18 b0.lt
  have b1 := b1.below k18 b1.lt
  have b2 := b2.below k18 b2.lt
  have hR := hR.moved k18
  have lv := lv.below k18
  have ln := ln.below k18
  have nr := nr.below k18
  have bel := hthen bel k18
  clear k18
  clear hw18 hibs
  refine (bools_any [false, false] (by decide) _ _ _ nr (litB2 bs)).mono ?_
  rintro e w19 ⟨rfl, k19⟩
  have b0 := b0.below k19 b0.lt
  have b1 := b1.below k19 b1.lt
  have b2 := b2.below k19 b2.lt
  have bs := bs.below k19 bs.lt
  have hR := hR.moved k19
  have lv := lv.below k19
  have ln := ln.below k19
  have nr := nr.below k19
  have bel := hthen bel k19
  clear k19
  go_wp2
  go_ret
  exact ⟨rfl, bel⟩
end Go.Proofs.YtmdjbmhjnajpgaaDoor
