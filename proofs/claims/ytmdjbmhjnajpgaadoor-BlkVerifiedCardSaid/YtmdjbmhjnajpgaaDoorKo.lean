/- The walks of BlkVerified. -/
import Derived.Test.YtmdjbmhjnajpgaaDoorKn
namespace Go.Proofs.YtmdjbmhjnajpgaaDoor
open Go Go.RowKit
set_option linter.unusedSimpArgs false
set_option linter.unnecessarySimpa false
set_option linter.unusedVariables false

theorem spoil_ws (d : Dv) (l : Lc) (s : List UInt8) : (d.spoilAt l s).ws.length ≤ d.ws.length := by
  unfold Dv.spoilAt
  split
  · unfold Dv.spoil
    rw [Dv.put_ws]
    exact List.length_filter_le _ _
  · exact Nat.le_refl _
theorem op5_cells {w0 : World} {A : Option Addr} {n c : Nat} {l : List D_permafrostlaw05_Op} (h : SlAt w0.heap.size w0 (R_permafrostlaw05_Op w0.heap.size w0) 8 [.slice A n c] l) (k : Nat) (hk : k < l.length) :
    ∃ ad v1, A = some ad ∧ (∀ w, Below w0.heap.size w0 w → w.cell? ⟨(ad.add (k * 8)).block, (ad.add (k * 8)).off + 1, none⟩ = some v1 ∧ w.cell? ⟨(ad.add (k * 8)).block, (ad.add (k * 8)).off + 2, none⟩ = some (.string (bstr l[k].s))) ∧ LocsAt w0.heap.size w0 v1 (l[k].locs.map toLc) := by
  obtain ⟨A', n', c', e, rfl, hc, hm, hx⟩ := h
  simp at e
  obtain ⟨rfl, rfl, rfl⟩ := e
  obtain ⟨ad, rfl, had, hcell⟩ := hx (by omega)
  obtain ⟨es, hl, ⟨v1, v4, rfl, -, hlc, -⟩, hu⟩ := hcell k l[k] (List.getElem?_eq_getElem hk)
  have e : ∀ j, (ad.add j).block < w0.heap.size := fun j => by unfold Addr.add; split <;> exact had
  have step : ∀ j, 0 < j → ad.add (k * 8 + j) = ⟨(ad.add (k * 8)).block, (ad.add (k * 8)).off + j, none⟩ := fun j hj => by
    rw [← add_add]
    conv => lhs; unfold Addr.add
    rw [if_neg (by omega)]
    rfl
  have e1 := hu 1 _ rfl
  have e2 := hu 2 _ rfl
  refine ⟨ad, v1, rfl, fun w hb => ⟨?_, ?_⟩, locs_of hlc⟩
  · rw [← step 1 (by omega), hb.cell (e _)]; exact e1
  · rw [← step 2 (by omega), hb.cell (e _)]; exact e2
theorem ops5_form {w0 : World} {v : Value} {l : List D_permafrostlaw05_Op} (h : SlAt w0.heap.size w0 (R_permafrostlaw05_Op w0.heap.size w0) 8 [v] l) : ∃ A c, v = .slice A l.length c ∧ l.length ≤ 9223372036854775807 := by
  obtain ⟨A, n, c, e, rfl, hc, hm, _⟩ := h
  simp only [List.cons.injEq, and_true] at e
  exact ⟨A, c, e, by omega⟩
theorem loc_cells {B : Nat} {w : World} {v : Value} {l : List D_api_Loc} (h : LocsAt B w v (l.map toLc)) (h1 : l.length = 1) : ∃ ae ce x, v = .slice (some ae) 1 ce ∧ ae.block < B ∧ w.cell? ae = some (.int .i64 x.dev) ∧ w.cell? ⟨ae.block, ae.off + 1, none⟩ = some (.int .i64 x.pos) ∧ x = ((l.map toLc)[0]?).getD ⟨0, 0⟩ := by
  obtain ⟨A, c, rfl, _, _, hx⟩ := h
  obtain ⟨ad, rfl, hb, hc⟩ := hx (by simp; omega)
  obtain ⟨c0, c1⟩ := hc 0 (by simp; omega)
  have hl : (l.map toLc).length = 1 := by simpa using h1
  refine ⟨ad, c, _, by rw [hl], hb, c0, c1, ?_⟩
  rw [List.getElem?_eq_getElem (by omega)]
  rfl
set_option maxRecDepth 100000 in
set_option maxHeartbeats 8000000 in
theorem blkVerified_walk (w : World) (hR : RootsAt w) (a0 : List UInt8) (h0 : a0.length ≤ 140737488351232) (v1 : Value) (a1 : List D_permafrostlaw05_Op) (h1 : SlAt w.heap.size w (R_permafrostlaw05_Op w.heap.size w) 8 [v1] a1) (a2 : D_api_Ptr) (v2_0 : Value) (h2_0 : SlAt w.heap.size w (R_api_Loc w.heap.size w) 2 [v2_0] a2.locs) (h2_1 : (Lit.int .i64 a2.len).wf = true) (h2_2 : (Lit.int .i64 a2.birth).wf = true) (h2_3 : a2.sum.length ≤ 9223372036854775807) :
    Calls Tryd.prog 3 #[.string (bstr a0), v1, .agg #[v2_0, .int .i64 a2.len, .int .i64 a2.birth, .string (bstr a2.sum)]] w fun e w' => e = .returned (.bool true) ∧ Below w.heap.size w w' := by
  have hv := locs_of h2_0
  obtain ⟨p, hp⟩ : ∃ p, toPt a2 = p := ⟨_, rfl⟩
  have e1 : a2.len = p.len := by rw [← hp]; rfl
  have e2 : a2.birth = p.birth := by rw [← hp]; rfl
  have e3 : a2.sum = p.sum := by rw [← hp]; rfl
  have e4 : a2.locs.map toLc = p.locs := by rw [← hp]; rfl
  rw [e4] at hv
  rw [e1, e2, e3]
  rw [e3] at h2_3
  clear e1 e2 e3 e4 hp h2_0 h2_1 h2_2
  obtain ⟨Ap, cp, rfl, hc, hm⟩ := hv.form
  obtain ⟨Ao, co, rfl, hol⟩ := ops5_form h1
  have hpl : p.locs.length ≤ 9223372036854775807 := by omega
  have HRW := Lib.hid hR
  have HV := Lib.hid hv
  have HO := Lib.hid h1
  have bel : Below w.heap.size w w := Below.refl _ _
  have szs : (bstr p.sum).size = p.sum.length := by simp [bstr, ByteArray.size]
  have sz0 : (bstr a0).size = a0.length := by simp [bstr, ByteArray.size]
  clear hv h1
  by_cases g3 : 960 < a0.length
  · have qg3 : decide ((a0.length : Int) > 960) = true := decide_eq_true (by omega)
    go_enter Tryd.func3, Tryd.ntmps3
    go_wp2_with fail
    obtain ⟨w1, hw1⟩ : ∃ x, w.alloc (.cells #[.slice Ap p.locs.length cp, .int .i64 p.len, .int .i64 p.birth, .string (bstr p.sum)] 25) = x := ⟨_, rfl⟩
    obtain ⟨ib0, hib0⟩ : ∃ i, w.heap.size = i := ⟨_, rfl⟩
    have b0 : Blk w1 ib0 25 #[.slice Ap p.locs.length cp, .int .i64 p.len, .int .i64 p.birth, .string (bstr p.sum)] := by rw [← hw1, ← hib0]; exact Blk.new _ _ _
    have k1 : Below w.heap.size w w1 := by rw [← hw1]; exact (Below.refl _ _).alloc (Nat.le_refl _) _
    have zb0 : w1.heap.size = ib0 + 1 := by rw [← hw1, ← hib0]; simp
    rw [hw1, hib0]
    have hR := hR.moved k1
    have bel := hthen bel k1
    clear k1
    clear hw1 hib0
    have b0c0 := b0.cell 0
    have b0c1 := b0.cell 1
    have b0c2 := b0.cell 2
    have b0c3 := b0.cell 3
    simp at b0c0 b0c1 b0c2 b0c3
    have b0lt := b0.lt
    try (go_wp2_with fail)
    refine (live_ok _ hR).mono ?_
    rintro e w2 ⟨rfl, k2⟩
    clear b0c0 b0c1 b0c2 b0c3 b0lt
    have b0 := b0.below k2 b0.lt
    have hR := hR.moved k2
    have bel := hthen bel k2
    clear k2
    go_wp2
    go_ret
    exact ⟨rfl, bel⟩
  have qg3 : decide ((a0.length : Int) > 960) = false := decide_eq_false (by omega)
  by_cases g4 : 10 < a1.length
  · have qg4 : decide ((a1.length : Int) > 10) = true := decide_eq_true (by omega)
    go_enter Tryd.func3, Tryd.ntmps3
    go_wp2_with fail
    obtain ⟨w1, hw1⟩ : ∃ x, w.alloc (.cells #[.slice Ap p.locs.length cp, .int .i64 p.len, .int .i64 p.birth, .string (bstr p.sum)] 25) = x := ⟨_, rfl⟩
    obtain ⟨ib0, hib0⟩ : ∃ i, w.heap.size = i := ⟨_, rfl⟩
    have b0 : Blk w1 ib0 25 #[.slice Ap p.locs.length cp, .int .i64 p.len, .int .i64 p.birth, .string (bstr p.sum)] := by rw [← hw1, ← hib0]; exact Blk.new _ _ _
    have k1 : Below w.heap.size w w1 := by rw [← hw1]; exact (Below.refl _ _).alloc (Nat.le_refl _) _
    have zb0 : w1.heap.size = ib0 + 1 := by rw [← hw1, ← hib0]; simp
    rw [hw1, hib0]
    have hR := hR.moved k1
    have bel := hthen bel k1
    clear k1
    clear hw1 hib0
    have b0c0 := b0.cell 0
    have b0c1 := b0.cell 1
    have b0c2 := b0.cell 2
    have b0c3 := b0.cell 3
    simp at b0c0 b0c1 b0c2 b0c3
    have b0lt := b0.lt
    try (go_wp2_with fail)
    refine (live_ok _ hR).mono ?_
    rintro e w2 ⟨rfl, k2⟩
    clear b0c0 b0c1 b0c2 b0c3 b0lt
    have b0 := b0.below k2 b0.lt
    have hR := hR.moved k2
    have bel := hthen bel k2
    clear k2
    go_wp2
    go_ret
    exact ⟨rfl, bel⟩
  have qg4 : decide ((a1.length : Int) > 10) = false := decide_eq_false (by omega)
  by_cases g1 : 6 < p.locs.length
  · have qg1 : decide ((p.locs.length : Int) > 6) = true := decide_eq_true (by omega)
    go_enter Tryd.func3, Tryd.ntmps3
    go_wp2_with fail
    obtain ⟨w1, hw1⟩ : ∃ x, w.alloc (.cells #[.slice Ap p.locs.length cp, .int .i64 p.len, .int .i64 p.birth, .string (bstr p.sum)] 25) = x := ⟨_, rfl⟩
    obtain ⟨ib0, hib0⟩ : ∃ i, w.heap.size = i := ⟨_, rfl⟩
    have b0 : Blk w1 ib0 25 #[.slice Ap p.locs.length cp, .int .i64 p.len, .int .i64 p.birth, .string (bstr p.sum)] := by rw [← hw1, ← hib0]; exact Blk.new _ _ _
    have k1 : Below w.heap.size w w1 := by rw [← hw1]; exact (Below.refl _ _).alloc (Nat.le_refl _) _
    have zb0 : w1.heap.size = ib0 + 1 := by rw [← hw1, ← hib0]; simp
    rw [hw1, hib0]
    have hR := hR.moved k1
    have bel := hthen bel k1
    clear k1
    clear hw1 hib0
    have b0c0 := b0.cell 0
    have b0c1 := b0.cell 1
    have b0c2 := b0.cell 2
    have b0c3 := b0.cell 3
    simp at b0c0 b0c1 b0c2 b0c3
    have b0lt := b0.lt
    try (go_wp2_with fail)
    refine (live_ok _ hR).mono ?_
    rintro e w2 ⟨rfl, k2⟩
    clear b0c0 b0c1 b0c2 b0c3 b0lt
    have b0 := b0.below k2 b0.lt
    have hR := hR.moved k2
    have bel := hthen bel k2
    clear k2
    go_wp2
    go_ret
    exact ⟨rfl, bel⟩
  have qg1 : decide ((p.locs.length : Int) > 6) = false := decide_eq_false (by omega)
  by_cases g2 : 100 < p.sum.length
  · have qg2 : decide ((p.sum.length : Int) > 100) = true := decide_eq_true (by omega)
    go_enter Tryd.func3, Tryd.ntmps3
    go_wp2_with fail
    obtain ⟨w1, hw1⟩ : ∃ x, w.alloc (.cells #[.slice Ap p.locs.length cp, .int .i64 p.len, .int .i64 p.birth, .string (bstr p.sum)] 25) = x := ⟨_, rfl⟩
    obtain ⟨ib0, hib0⟩ : ∃ i, w.heap.size = i := ⟨_, rfl⟩
    have b0 : Blk w1 ib0 25 #[.slice Ap p.locs.length cp, .int .i64 p.len, .int .i64 p.birth, .string (bstr p.sum)] := by rw [← hw1, ← hib0]; exact Blk.new _ _ _
    have k1 : Below w.heap.size w w1 := by rw [← hw1]; exact (Below.refl _ _).alloc (Nat.le_refl _) _
    have zb0 : w1.heap.size = ib0 + 1 := by rw [← hw1, ← hib0]; simp
    rw [hw1, hib0]
    have hR := hR.moved k1
    have bel := hthen bel k1
    clear k1
    clear hw1 hib0
    have b0c0 := b0.cell 0
    have b0c1 := b0.cell 1
    have b0c2 := b0.cell 2
    have b0c3 := b0.cell 3
    simp at b0c0 b0c1 b0c2 b0c3
    have b0lt := b0.lt
    try (go_wp2_with fail)
    refine (live_ok _ hR).mono ?_
    rintro e w2 ⟨rfl, k2⟩
    clear b0c0 b0c1 b0c2 b0c3 b0lt
    have b0 := b0.below k2 b0.lt
    have hR := hR.moved k2
    have bel := hthen bel k2
    clear k2
    go_wp2
    go_ret
    exact ⟨rfl, bel⟩
  have qg2 : decide ((p.sum.length : Int) > 100) = false := decide_eq_false (by omega)
  obtain ⟨SH, hSH⟩ : ∃ x, shaL a0 = x := ⟨_, rfl⟩
  have hp : P2 5 5 a0 1 = ⟨[⟨0, 5⟩, ⟨1, 5⟩], (a0.length : Int), 1, SH⟩ := by unfold P2; rw [hSH]; rfl
  have hck : ckE (P2 5 5 a0 1) = 0 := P2_ok (by decide) (by decide) (by omega) (by decide) (by decide)
  have HPF := Lib.hid (show (⟨[⟨0, 5⟩, ⟨1, 5⟩], (a0.length : Int), 1, SH⟩ : Pt) = ⟨[⟨0, 5⟩, ⟨1, 5⟩], a0.length, 1, shaL a0⟩ by rw [hSH])
  have HCK := Lib.hid (hp ▸ hck)
  have HSZ := Lib.hid (hp ▸ two_sizes (p := 5) (q := 5) (load := a0) (b := 1) (by decide) (by decide))
  have HNG := Lib.hid (hp ▸ two_gone (p := 5) (q := 5) (load := a0) (b := 1))
  have HWR := Lib.hid (hp ▸ two_written (p := 5) (q := 5) (load := a0) (b := 1) (by decide) (by decide) (by omega))
  have ho10 : a1.length ≤ 10 := by omega
  clear hp hck hSH g1 g2 g3 g4 h0
  go_enter Tryd.func3, Tryd.ntmps3
  go_wp2_with fail
  obtain ⟨w1, hw1⟩ : ∃ x, w.alloc (.cells #[.slice Ap p.locs.length cp, .int .i64 p.len, .int .i64 p.birth, .string (bstr p.sum)] 25) = x := ⟨_, rfl⟩
  obtain ⟨ib0, hib0⟩ : ∃ i, w.heap.size = i := ⟨_, rfl⟩
  have b0 : Blk w1 ib0 25 #[.slice Ap p.locs.length cp, .int .i64 p.len, .int .i64 p.birth, .string (bstr p.sum)] := by rw [← hw1, ← hib0]; exact Blk.new _ _ _
  have k1 : Below w.heap.size w w1 := by rw [← hw1]; exact (Below.refl _ _).alloc (Nat.le_refl _) _
  have zb0 : w1.heap.size = ib0 + 1 := by rw [← hw1, ← hib0]; simp
  rw [hw1, hib0]
  have hR := hR.moved k1
  have bel := hthen bel k1
  clear k1
  clear hw1 hib0
  clear zb0
  have b0c0 := b0.cell 0
  have b0c1 := b0.cell 1
  have b0c2 := b0.cell 2
  have b0c3 := b0.cell 3
  simp at b0c0 b0c1 b0c2 b0c3
  have b0lt := b0.lt
  go_wp2_with fail
  clear b0c0 b0c1 b0c2 b0c3 b0lt
  refine (newL 20 20 (by decide) (by decide) (by decide) (by decide) w _ bel).mono ?_
  rintro e w2 ⟨g, S2, rfl, lv, hS0, k0⟩
  have nSb0 : ¬ S2 ib0 := fun e => by have := hS0 _ e; have := b0.lt; omega
  have b0 := b0.below k0 b0.lt
  have hR := hR.moved k0
  have bel := hthen bel k0
  clear k0
  clear hS0
  have b0c0 := b0.cell 0
  have b0c1 := b0.cell 1
  have b0c2 := b0.cell 2
  have b0c3 := b0.cell 3
  simp at b0c0 b0c1 b0c2 b0c3
  have b0lt := b0.lt
  go_wp2_with fail
  clear b0c0 b0c1 b0c2 b0c3 b0lt
  obtain ⟨w3, hw3⟩ : ∃ x, w2.alloc (.cells #[.int .i64 0, .int .i64 5, .int .i64 1, .int .i64 5] 33) = x := ⟨_, rfl⟩
  obtain ⟨ill, hill⟩ : ∃ i, w2.heap.size = i := ⟨_, rfl⟩
  have ll : Blk w3 ill 33 #[.int .i64 0, .int .i64 5, .int .i64 1, .int .i64 5] := by rw [← hw3, ← hill]; exact Blk.new _ _ _
  have k3 : Below w2.heap.size w2 w3 := by rw [← hw3]; exact (Below.refl _ _).alloc (Nat.le_refl _) _
  have zll : w3.heap.size = ill + 1 := by rw [← hw3, ← hill]; simp
  rw [hw3, hill]
  have nSll : ¬ S2 ill := fun e => by have := lv.o.lt _ e; omega
  have b0 := b0.below k3 b0.lt
  have hR := hR.moved k3
  have lv := lv.below k3
  have bel := hthen bel k3
  clear k3
  clear hw3 hill
  have plll : PtOn S2 w3 (.slice (some ⟨ill, 0, none⟩) 2 2) [⟨0, 5⟩, ⟨1, 5⟩] := lit2 ll nSll
  refine (bwr_ok (p := ⟨[⟨0, 5⟩, ⟨1, 5⟩], (a0.length : Int), 1, SH⟩) (load := a0) (birth := 1) HPF.out HCK.out HSZ.out HNG.out HWR.out (by decide) S2 g _ w _ bel hR plll lv).mono ?_
  rintro e w4 ⟨u, S4, rfl, lv, gS, kS, bel, ln⟩
  have mSb0 : ¬ S4 ib0 := fun e => (gS _ e).elim nSb0 (fun e => by have := b0.lt; omega)
  have b0 := b0.keep kS b0.lt nSb0
  have nSb0 := mSb0
  clear mSb0
  have mSll : ¬ S4 ill := fun e => (gS _ e).elim nSll (fun e => by have := ll.lt; omega)
  have ll := ll.keep kS ll.lt nSll
  have nSll := mSll
  clear mSll
  have hR := HRW.out.moved bel
  clear gS kS
  obtain ⟨A, c, rfl, -, -⟩ := ln.at_.form
  have b0c0 := b0.cell 0
  have b0c1 := b0.cell 1
  have b0c2 := b0.cell 2
  have b0c3 := b0.cell 3
  simp at b0c0 b0c1 b0c2 b0c3
  have b0lt := b0.lt
  go_upto_region 7 with fail
  have ln : PtOn _ _ (.slice A 2 c) [⟨0, 5⟩, ⟨1, 5⟩] := ln
  clear b0c0 b0c1 b0c2 b0c3 b0lt
  obtain ⟨w5, hw5⟩ : ∃ x, w4.alloc (.cells #[.slice A 2 c, .int .i64 a0.length, .int .i64 1, .string (bstr SH)] 25) = x := ⟨_, rfl⟩
  obtain ⟨ib1, hib1⟩ : ∃ i, w4.heap.size = i := ⟨_, rfl⟩
  have b1 : Blk w5 ib1 25 #[.slice A 2 c, .int .i64 a0.length, .int .i64 1, .string (bstr SH)] := by rw [← hw5, ← hib1]; exact Blk.new _ _ _
  have k5 : Below w4.heap.size w4 w5 := by rw [← hw5]; exact (Below.refl _ _).alloc (Nat.le_refl _) _
  have zb1 : w5.heap.size = ib1 + 1 := by rw [← hw5, ← hib1]; simp
  rw [hw5, hib1]
  have nSb1 : ¬ S4 ib1 := fun e => by have := lv.o.lt _ e; omega
  have b0 := b0.below k5 b0.lt
  have hR := hR.moved k5
  have lv := lv.below k5
  have ln := ln.below k5
  have bel := hthen bel k5
  clear k5
  clear hw5 hib1
  have b0c0 := b0.cell 0
  have b0c1 := b0.cell 1
  have b0c2 := b0.cell 2
  have b0c3 := b0.cell 3
  simp at b0c0 b0c1 b0c2 b0c3
  have b0lt := b0.lt
  have b1c0 := b1.cell 0
  have b1c1 := b1.cell 1
  have b1c2 := b1.cell 2
  have b1c3 := b1.cell 3
  simp at b1c0 b1c1 b1c2 b1c3
  have b1lt := b1.lt
  go_wp2_with fail
  clear b0c0 b0c1 b0c2 b0c3 b0lt b1c0 b1c1 b1c2 b1c3 b1lt
  have hd0 : (D2 5 5 [] [] false false [⟨⟨0, 5⟩, a0⟩, ⟨⟨1, 5⟩, a0⟩]).ws.length ≤ 2 := Nat.le_refl 2
  go_loopw [10] (fun i wr => ∃ (k : Nat) (S : Nat → Prop) (d : Dv), k ≤ a1.length ∧ i = .int .i64 k ∧ d.ws.length ≤ 2 ∧ Lv w wr S g d ∧ PtOn S wr (.slice A 2 c) [⟨0, 5⟩, ⟨1, 5⟩] ∧ Below w.heap.size w wr ∧ Blk wr ib0 25 #[.slice Ap p.locs.length cp, .int .i64 p.len, .int .i64 p.birth, .string (bstr p.sum)] ∧ ¬ S ib0 ∧ Blk wr ib1 25 #[.slice A 2 c, .int .i64 a0.length, .int .i64 1, .string (bstr SH)] ∧ ¬ S ib1) (fun i _ => a1.length - (intOf i).toNat)
  case atStart => exact ⟨0, S4, _, by omega, rfl, hd0, lv, ln, bel, b0, nSb0, b1, nSb1⟩
  case round =>
    clear lv ln bel b0 nSb0 b1 nSb1 hR hd0
    obtain ⟨k, S, d, hk, rfl, hdw, lv, ln, bel, b0, nSb0, b1, nSb1⟩ := hrel
    have hR := HRW.out.moved bel
    by_cases hlt : k < a1.length
    · have q1 : decide ((k : Int) < a1.length) = true := decide_eq_true (by omega)
      have T0 : (0 : Int) ≤ k := by omega
      have T1 : (k : Int) < a1.length := by omega
      obtain ⟨ad, v1, rfl, oc, hloc⟩ := op5_cells HO.out k hlt
      obtain ⟨ls, hls⟩ : ∃ x, a1[k].locs = x := ⟨_, rfl⟩
      obtain ⟨s, hs⟩ : ∃ x, a1[k].s = x := ⟨_, rfl⟩
      rw [hls] at hloc
      rw [hs] at oc
      have szS : (bstr s).size = s.length := by simp [bstr, ByteArray.size]
      obtain ⟨Al, cl, rfl, _, _⟩ := hloc.form
      rw [List.length_map] at oc hloc
      have OC := Lib.hid oc
      have HLOC := Lib.hid hloc
      obtain ⟨c1, c2⟩ := oc _ bel
      clear oc hloc hs hls
      by_cases hl1 : ls.length = 1
      · have ql : ((ls.length : Int) == 1) = true := by simp [hl1]
        obtain ⟨ae, ce, xl, ev, hae, l0, l1, -⟩ := loc_cells HLOC.out hl1
        simp only [Value.slice.injEq] at ev
        obtain ⟨rfl, -, rfl⟩ := ev
        rw [hl1] at c1 OC
        by_cases hs1 : s.length ≤ 1100
        · have qs : decide ((s.length : Int) ≤ 1100) = true := decide_eq_true (by omega)
          have LC : Hid (∀ W, Below w.heap.size w W → W.cell? ae = some (.int .i64 xl.dev) ∧ W.cell? ⟨ae.block, ae.off + 1, none⟩ = some (.int .i64 xl.pos)) := Lib.hid (fun W hW => ⟨(hW.cell hae).trans l0, (hW.cell (p := ⟨ae.block, ae.off + 1, none⟩) hae).trans l1⟩)
          have HDW : Hid (d.ws.length ≤ 100000) := Lib.hid (by omega)
          have hdw := Nat.le_trans (spoil_ws d xl s) hdw
          clear hs1
          have b0c0 := b0.cell 0
          have b0c1 := b0.cell 1
          have b0c2 := b0.cell 2
          have b0c3 := b0.cell 3
          simp at b0c0 b0c1 b0c2 b0c3
          have b0lt := b0.lt
          have b1c0 := b1.cell 0
          have b1c1 := b1.cell 1
          have b1c2 := b1.cell 2
          have b1c3 := b1.cell 3
          simp at b1c0 b1c1 b1c2 b1c3
          have b1lt := b1.lt
          go_wp2_with fail
          clear b0c0 b0c1 b0c2 b0c3 b0lt b1c0 b1c1 b1c2 b1c3 b1lt
          clear c1 c2 l0 l1
          obtain ⟨c1, c2⟩ := OC.out _ bel
          obtain ⟨l0, l1⟩ := LC.out _ bel
          have hR := hR.moved (Below.refl _ _).drew
          have lv := lv.below (Below.refl _ _).drew
          have ln := ln.below (Below.refl _ _).drew
          have bel := bel.drew
          have b0 := b0.drew
          have b1 := b1.drew
          have c1 := (OC.out _ bel).1
          have c2 := (OC.out _ bel).2
          have l0 := (LC.out _ bel).1
          have l1 := (LC.out _ bel).2
          refine wp_region_noPanic ?_
          refine wp_region_held_drew (S := (fun w' => w'.cell? ⟨(ad.add (k * 8)).block, (ad.add (k * 8)).off + 1, none⟩ = some (.slice (some ae) 1 cl) ∧ w'.cell? ⟨(ad.add (k * 8)).block, (ad.add (k * 8)).off + 2, none⟩ = some (.string (bstr s)) ∧ w'.cell? ae = some (.int .i64 xl.dev) ∧ w'.cell? ⟨ae.block, ae.off + 1, none⟩ = some (.int .i64 xl.pos))) (by kernel_rfl) ?hS0 (fun hHeld => ?_)
          case hS0 => (exact ⟨c1, c2, l0, l1⟩)
          generalize hZ : wr.drew = wd81 at *
          clear hZ
          refine wpAnyH_take (i := 0) (oi := ⟨some 68, _, _, _, _, _⟩) (v := ?_) rfl (by kernel_rfl) (by kernel_rfl) (by kernel_rfl) (fun _ _ _ h => h) (Or.inl ⟨by kernel_rfl, ?_⟩) hHeld ?_
          rotate_left
          · (intro w hSw; (try dsimp only at hSw); go_simp; try with_reducible rfl)
          try simp only [Act.put, List.getElem_toArray, List.getElem_cons_succ, List.getElem_cons_zero, List.setIfInBounds_toArray, List.set_cons_zero, List.set_cons_succ]
          refine wpAnyH_take (i := 1) (oi := ⟨some 69, _, _, _, _, _⟩) (v := ?_) rfl (by kernel_rfl) (by kernel_rfl) (by kernel_rfl) (fun _ _ _ h => h) (Or.inl ⟨by kernel_rfl, ?_⟩) hHeld ?_
          rotate_left
          · (intro w hSw; (try dsimp only at hSw); go_simp; try with_reducible rfl)
          try simp only [Act.put, List.getElem_toArray, List.getElem_cons_succ, List.getElem_cons_zero, List.setIfInBounds_toArray, List.set_cons_zero, List.set_cons_succ]
          refine wpAnyH_take (i := 2) (oi := ⟨some 70, _, _, _, _, _⟩) (v := ?_) rfl (by kernel_rfl) (by kernel_rfl) (by kernel_rfl) (fun _ _ _ h => h) (Or.inl ⟨by kernel_rfl, ?_⟩) hHeld ?_
          rotate_left
          · (intro w hSw; (try dsimp only at hSw); go_simp; try with_reducible rfl)
          try simp only [Act.put, List.getElem_toArray, List.getElem_cons_succ, List.getElem_cons_zero, List.setIfInBounds_toArray, List.set_cons_zero, List.set_cons_succ]
          refine wpAnyH_take (i := 3) (oi := ⟨some 71, _, _, _, _, _⟩) (v := ?_) rfl (by kernel_rfl) (by kernel_rfl) (by kernel_rfl) (fun _ _ _ h => h) (Or.inl ⟨by kernel_rfl, ?_⟩) hHeld ?_
          rotate_left
          · (intro w hSw; (try dsimp only at hSw); go_simp; try with_reducible rfl)
          try simp only [Act.put, List.getElem_toArray, List.getElem_cons_succ, List.getElem_cons_zero, List.setIfInBounds_toArray, List.set_cons_zero, List.set_cons_succ]
          refine wpAnyH_take (i := 4) (oi := ⟨some 72, _, _, _, _, _⟩) (v := ?_) rfl (by kernel_rfl) (by kernel_rfl) (by kernel_rfl) (fun _ _ _ h => h) (Or.inl ⟨by kernel_rfl, ?_⟩) hHeld ?_
          rotate_left
          · (intro w hSw; (try dsimp only at hSw); go_simp; try with_reducible rfl)
          try simp only [Act.put, List.getElem_toArray, List.getElem_cons_succ, List.getElem_cons_zero, List.setIfInBounds_toArray, List.set_cons_zero, List.set_cons_succ]
          refine wpAnyH_take (i := 5) (oi := ⟨some 73, _, _, _, _, _⟩) (v := ?_) rfl (by kernel_rfl) (by kernel_rfl) (by kernel_rfl) (fun _ _ _ h => h) (Or.inl ⟨by kernel_rfl, ?_⟩) hHeld ?_
          rotate_left
          · (intro w hSw; (try dsimp only at hSw); go_simp; try with_reducible rfl)
          try simp only [Act.put, List.getElem_toArray, List.getElem_cons_succ, List.getElem_cons_zero, List.setIfInBounds_toArray, List.set_cons_zero, List.set_cons_succ]
          refine wpAnyH_take (i := 6) (oi := ⟨some 74, _, _, _, _, _⟩) (v := ?_) rfl (by kernel_rfl) (by kernel_rfl) (by kernel_rfl) (fun _ _ _ h => h) (Or.inl ⟨by kernel_rfl, ?_⟩) hHeld ?_
          rotate_left
          · (intro w hSw; (try dsimp only at hSw); go_simp; try with_reducible rfl)
          try simp only [Act.put, List.getElem_toArray, List.getElem_cons_succ, List.getElem_cons_zero, List.setIfInBounds_toArray, List.set_cons_zero, List.set_cons_succ]
          refine wpAnyH_take (i := 7) (oi := ⟨some 75, _, _, _, _, _⟩) (v := ?_) rfl (by kernel_rfl) (by kernel_rfl) (by kernel_rfl) (fun _ _ _ h => h) (Or.inl ⟨by kernel_rfl, ?_⟩) hHeld ?_
          rotate_left
          · (intro w hSw; (try dsimp only at hSw); go_simp; try with_reducible rfl)
          try simp only [Act.put, List.getElem_toArray, List.getElem_cons_succ, List.getElem_cons_zero, List.setIfInBounds_toArray, List.set_cons_zero, List.set_cons_succ]
          refine wpAnyH_take (i := 8) (oi := ⟨some 76, _, _, _, _, _⟩) (v := ?_) rfl (by kernel_rfl) (by kernel_rfl) (by kernel_rfl) (fun _ _ _ h => h) (Or.inl ⟨by kernel_rfl, ?_⟩) hHeld ?_
          rotate_left
          · (intro w hSw; (try dsimp only at hSw); go_simp; try with_reducible rfl)
          try simp only [Act.put, List.getElem_toArray, List.getElem_cons_succ, List.getElem_cons_zero, List.setIfInBounds_toArray, List.set_cons_zero, List.set_cons_succ]
          refine wpAnyH_take (i := 9) (oi := ⟨some 77, _, _, _, _, _⟩) (v := ?_) rfl (by kernel_rfl) (by kernel_rfl) (by kernel_rfl) (fun _ _ _ h => h) (Or.inl ⟨by kernel_rfl, ?_⟩) hHeld ?_
          rotate_left
          · (intro w hSw; (try dsimp only at hSw); go_simp; try with_reducible rfl)
          try simp only [Act.put, List.getElem_toArray, List.getElem_cons_succ, List.getElem_cons_zero, List.setIfInBounds_toArray, List.set_cons_zero, List.set_cons_succ]
          refine wpAnyH_take (i := 10) (oi := ⟨some 78, _, _, _, _, _⟩) (v := ?_) rfl (by kernel_rfl) (by kernel_rfl) (by kernel_rfl) (fun _ _ _ h => h) (Or.inl ⟨by kernel_rfl, ?_⟩) hHeld ?_
          rotate_left
          · (intro w hSw; (try dsimp only at hSw); go_simp; try with_reducible rfl)
          try simp only [Act.put, List.getElem_toArray, List.getElem_cons_succ, List.getElem_cons_zero, List.setIfInBounds_toArray, List.set_cons_zero, List.set_cons_succ]
          refine wpAnyH_take (i := 11) (oi := ⟨some 79, _, _, _, _, _⟩) (v := ?_) rfl (by kernel_rfl) (by kernel_rfl) (by kernel_rfl) (fun _ _ _ h => h) (Or.inl ⟨by kernel_rfl, ?_⟩) hHeld ?_
          rotate_left
          · (intro w hSw; (try dsimp only at hSw); go_simp; try with_reducible rfl)
          try simp only [Act.put, List.getElem_toArray, List.getElem_cons_succ, List.getElem_cons_zero, List.setIfInBounds_toArray, List.set_cons_zero, List.set_cons_succ]
          refine wpAnyH_take (i := 12) (oi := ⟨some 80, _, _, _, _, _⟩) (v := ?_) rfl (by kernel_rfl) (by kernel_rfl) (by kernel_rfl) (fun _ _ _ h => h) (Or.inl ⟨by kernel_rfl, ?_⟩) hHeld ?_
          rotate_left
          · (intro w hSw; (try dsimp only at hSw); go_simp; try with_reducible rfl)
          try simp only [Act.put, List.getElem_toArray, List.getElem_cons_succ, List.getElem_cons_zero, List.setIfInBounds_toArray, List.set_cons_zero, List.set_cons_succ]
          refine wpAnyH_ready (rs := [13]) (by kernel_rfl) (by simp) ?_
          refine (AllReadyH.cons rfl (fun K hK => ?_) AllReadyH.nil)
          try rw [if_pos (by kernel_rfl)]
          go_simp
          go_at_call 11
          refine (spoilL S g d xl s rfl HDW.out w _ bel lv).mono ?_
          rintro e w82 ⟨rfl, S82, lv, gS, kS, bel⟩
          have mSb0 : ¬ S82 ib0 := fun e => (gS _ e).elim nSb0 (fun e => by have := b0.lt; omega)
          have b0 := b0.keep kS b0.lt nSb0
          have nSb0 := mSb0
          clear mSb0
          have mSb1 : ¬ S82 ib1 := fun e => (gS _ e).elim nSb1 (fun e => by have := b1.lt; omega)
          have b1 := b1.keep kS b1.lt nSb1
          have nSb1 := mSb1
          clear mSb1
          have hR := HRW.out.moved bel
          have ln := ln.post gS kS
          clear gS kS
          have c1 := (OC.out _ bel).1
          have c2 := (OC.out _ bel).2
          have l0 := (LC.out _ bel).1
          have l1 := (LC.out _ bel).2
          try dsimp only
          refine hK.out _ _ (by exact ⟨c1, c2, l0, l1⟩) (fun hHeld => ?_)
          clear hK K
          try simp only [Act.put, List.getElem_toArray, List.getElem_cons_succ, List.getElem_cons_zero, List.setIfInBounds_toArray, List.set_cons_zero, List.set_cons_succ]
          refine wpAnyH_done (by kernel_rfl) ?_ _
          refine NoPanic.normal ?_
          clear c1 c2 l0 l1
          go_wp2
          go_roundw
          case rel => exact ⟨k + 1, S82, _, by omega, by go_num, hdw, lv, ln, bel, b0, nSb0, b1, nSb1⟩
          case measure => simp [intOf]; omega
        · have qs : decide ((s.length : Int) ≤ 1100) = false := decide_eq_false (by omega)
          clear hs1
          have b0c0 := b0.cell 0
          have b0c1 := b0.cell 1
          have b0c2 := b0.cell 2
          have b0c3 := b0.cell 3
          simp at b0c0 b0c1 b0c2 b0c3
          have b0lt := b0.lt
          have b1c0 := b1.cell 0
          have b1c1 := b1.cell 1
          have b1c2 := b1.cell 2
          have b1c3 := b1.cell 3
          simp at b1c0 b1c1 b1c2 b1c3
          have b1lt := b1.lt
          go_wp2
          go_roundw
          case rel => exact ⟨k + 1, S, _, by omega, by go_num, hdw, lv, ln, bel, b0, nSb0, b1, nSb1⟩
          case measure => simp [intOf]; omega
      · have ql : ((ls.length : Int) == 1) = false := beq_eq_false_iff_ne.2 (by omega)
        have b0c0 := b0.cell 0
        have b0c1 := b0.cell 1
        have b0c2 := b0.cell 2
        have b0c3 := b0.cell 3
        simp at b0c0 b0c1 b0c2 b0c3
        have b0lt := b0.lt
        have b1c0 := b1.cell 0
        have b1c1 := b1.cell 1
        have b1c2 := b1.cell 2
        have b1c3 := b1.cell 3
        simp at b1c0 b1c1 b1c2 b1c3
        have b1lt := b1.lt
        go_wp2
        go_roundw
        case rel => exact ⟨k + 1, S, _, by omega, by go_num, hdw, lv, ln, bel, b0, nSb0, b1, nSb1⟩
        case measure => simp [intOf]; omega
    · obtain rfl : k = a1.length := by omega
      have q1 : decide (((a1.length : Nat) : Int) < (a1.length : Int)) = false := by simp
      have HDW : Hid (d.ws.length ≤ 100000) := Lib.hid (by omega)
      clear qg1 qg2 qg3 qg4
      have b0c0 := b0.cell 0
      have b0c1 := b0.cell 1
      have b0c2 := b0.cell 2
      have b0c3 := b0.cell 3
      simp at b0c0 b0c1 b0c2 b0c3
      have b0lt := b0.lt
      have b1c0 := b1.cell 0
      have b1c1 := b1.cell 1
      have b1c2 := b1.cell 2
      have b1c3 := b1.cell 3
      simp at b1c0 b1c1 b1c2 b1c3
      have b1lt := b1.lt
      go_wp2_with fail
      refine (verified_any _ _ d.read p _ hR (HV.out.keep bel bel.size) (lv.rd HDW.out)).mono ?_
      rintro e w121 ⟨rfl, k121⟩
      clear b0c0 b0c1 b0c2 b0c3 b0lt b1c0 b1c1 b1c2 b1c3 b1lt
      have b0 := b0.below k121 b0.lt
      have b1 := b1.below k121 b1.lt
      have hR := hR.moved k121
      have lv := lv.below k121
      have ln := ln.below k121
      have bel := hthen bel k121
      clear k121
      have b0c0 := b0.cell 0
      have b0c1 := b0.cell 1
      have b0c2 := b0.cell 2
      have b0c3 := b0.cell 3
      simp at b0c0 b0c1 b0c2 b0c3
      have b0lt := b0.lt
      have b1c0 := b1.cell 0
      have b1c1 := b1.cell 1
      have b1c2 := b1.cell 2
      have b1c3 := b1.cell 3
      simp at b1c0 b1c1 b1c2 b1c3
      have b1lt := b1.lt
      go_wp2_with fail
      refine (verified_any _ _ d.read ⟨[⟨0, 5⟩, ⟨1, 5⟩], (a0.length : Int), 1, SH⟩ _ hR ln.at_ (lv.rd HDW.out)).mono ?_
      rintro e w122 ⟨rfl, k122⟩
      clear b0c0 b0c1 b0c2 b0c3 b0lt b1c0 b1c1 b1c2 b1c3 b1lt
      have b0 := b0.below k122 b0.lt
      have b1 := b1.below k122 b1.lt
      have hR := hR.moved k122
      have lv := lv.below k122
      have ln := ln.below k122
      have bel := hthen bel k122
      clear k122
      have b0c0 := b0.cell 0
      have b0c1 := b0.cell 1
      have b0c2 := b0.cell 2
      have b0c3 := b0.cell 3
      simp at b0c0 b0c1 b0c2 b0c3
      have b0lt := b0.lt
      have b1c0 := b1.cell 0
      have b1c1 := b1.cell 1
      have b1c2 := b1.cell 2
      have b1c3 := b1.cell 3
      simp at b1c0 b1c1 b1c2 b1c3
      have b1lt := b1.lt
      go_wp2_with fail
      refine (live_ok _ hR).mono ?_
      rintro e w123 ⟨rfl, k123⟩
      clear b0c0 b0c1 b0c2 b0c3 b0lt b1c0 b1c1 b1c2 b1c3 b1lt
      have b0 := b0.below k123 b0.lt
      have b1 := b1.below k123 b1.lt
      have hR := hR.moved k123
      have lv := lv.below k123
      have ln := ln.below k123
      have bel := hthen bel k123
      clear k123
      go_wp2
      go_ret
      exact ⟨rfl, bel⟩
end Go.Proofs.YtmdjbmhjnajpgaaDoor
