/- The walks of BlkNil. -/
import Derived.Test.YtmdjbmhjnajpgaaDoorKk
import Derived.Test.YtmdjbmhjnajpgaaDoorTy
namespace Go.Proofs.YtmdjbmhjnajpgaaDoor
open Go Go.RowKit
set_option linter.unusedSimpArgs false
set_option linter.unnecessarySimpa false
set_option linter.unusedVariables false

def toLc (x : D_api_Loc) : Lc := ⟨x.dev, x.at_⟩
def toPt (a : D_api_Ptr) : Pt := ⟨a.locs.map toLc, a.len, a.birth, a.sum⟩
theorem locs_of {w : World} {v : Value} {l : List D_api_Loc} (h : SlAt w.heap.size w (R_api_Loc w.heap.size w) 2 [v] l) : LocsAt w.heap.size w v (l.map toLc) := by
  obtain ⟨A, n, c, e, rfl, hc, hm, hx⟩ := h
  simp only [List.cons.injEq, and_true] at e
  subst e
  refine ⟨A, c, by simp, by simpa using hc, hm, fun h0 => ?_⟩
  obtain ⟨ad, rfl, hb, hcell⟩ := hx (by simpa using h0)
  refine ⟨ad, rfl, hb, fun i hi => ?_⟩
  have hi' : i < l.length := by simpa using hi
  obtain ⟨es, hl, ⟨rfl, -, -⟩, hu⟩ := hcell i l[i] (List.getElem?_eq_getElem hi')
  have e0 := hu 0 _ rfl
  have e1 := hu 1 _ rfl
  simp only [List.getElem_map]
  exact ⟨e0, e1⟩
theorem P1_ok {load : List UInt8} (hl : load.length ≤ 960) : ckE ⟨[⟨0, 1⟩], load.length, 0, shaL load⟩ = 0 :=
  checkE_ok (l := [⟨0, 1⟩]) (len := load.length) (birth := 0) (sum := shaL load) (by decide) (by decide) (by decide) (by decide) (by omega) (by omega) (by decide) (by decide) (sha_len load)
set_option maxRecDepth 100000 in
set_option maxHeartbeats 8000000 in
theorem blkNil_walk (w : World) (hR : RootsAt w) (a0 : D_api_Ptr) (v0_0 : Value) (h0_0 : SlAt w.heap.size w (R_api_Loc w.heap.size w) 2 [v0_0] a0.locs) (h0_1 : (Lit.int .i64 a0.len).wf = true) (h0_2 : (Lit.int .i64 a0.birth).wf = true) (h0_3 : a0.sum.length ≤ 9223372036854775807) (a1 : List UInt8) (h1 : a1.length ≤ 140737488351232) :
    Calls Tryd.prog 4 #[.agg #[v0_0, .int .i64 a0.len, .int .i64 a0.birth, .string (bstr a0.sum)], .string (bstr a1)] w fun e w' => e = .returned (.bool true) ∧ Below w.heap.size w w' := by
  have hv := locs_of h0_0
  obtain ⟨p, hp⟩ : ∃ p, toPt a0 = p := ⟨_, rfl⟩
  have e1 : a0.len = p.len := by rw [← hp]; rfl
  have e2 : a0.birth = p.birth := by rw [← hp]; rfl
  have e3 : a0.sum = p.sum := by rw [← hp]; rfl
  have e4 : a0.locs.map toLc = p.locs := by rw [← hp]; rfl
  rw [e4] at hv
  rw [e1, e2, e3]
  rw [e3] at h0_3
  clear e1 e2 e3 e4 hp h0_0 h0_1 h0_2
  obtain ⟨A, c, rfl, hc, hm⟩ := hv.form
  have hpl : p.locs.length ≤ 9223372036854775807 := by omega
  have HRW := Lib.hid hR
  have HV := Lib.hid hv
  have bel : Below w.heap.size w w := Below.refl _ _
  have szs : (bstr p.sum).size = p.sum.length := by simp [bstr, ByteArray.size]
  have sz1 : (bstr a1).size = a1.length := by simp [bstr, ByteArray.size]
  clear hv
  by_cases g1 : 6 < p.locs.length
  · have qg1 : decide ((p.locs.length : Int) > 6) = true := decide_eq_true (by omega)
    go_enter Tryd.func4, Tryd.ntmps4
    go_wp2_with fail
    obtain ⟨w1, hw1⟩ : ∃ x, w.alloc (.cells #[.slice A p.locs.length c, .int .i64 p.len, .int .i64 p.birth, .string (bstr p.sum)] 25) = x := ⟨_, rfl⟩
    obtain ⟨ib0, hib0⟩ : ∃ i, w.heap.size = i := ⟨_, rfl⟩
    have b0 : Blk w1 ib0 25 #[.slice A p.locs.length c, .int .i64 p.len, .int .i64 p.birth, .string (bstr p.sum)] := by rw [← hw1, ← hib0]; exact Blk.new _ _ _
    have k1 : Below w.heap.size w w1 := by rw [← hw1]; exact (Below.refl _ _).alloc (Nat.le_refl _) _
    have zb0 : w1.heap.size = ib0 + 1 := by rw [← hw1, ← hib0]; simp
    rw [hw1, hib0]
    have hR := hR.moved k1
    have bel := hthen bel k1
    clear k1
    clear hw1 hib0
    have b0c0 := b0.cell 0
    have b0c1 := b0.cell 1
    have b0c2 := b0.cell 2
    have b0c3 := b0.cell 3
    simp at b0c0 b0c1 b0c2 b0c3
    have b0lt := b0.lt
    try (go_wp2_with fail)
    refine (live_ok _ hR).mono ?_
    rintro e w2 ⟨rfl, k2⟩
    clear b0c0 b0c1 b0c2 b0c3 b0lt
    have b0 := b0.below k2 b0.lt
    have hR := hR.moved k2
    have bel := hthen bel k2
    clear k2
    go_wp2
    go_ret
    exact ⟨rfl, bel⟩
  have qg1 : decide ((p.locs.length : Int) > 6) = false := decide_eq_false (by omega)
  by_cases g2 : 100 < p.sum.length
  · have qg2 : decide ((p.sum.length : Int) > 100) = true := decide_eq_true (by omega)
    go_enter Tryd.func4, Tryd.ntmps4
    go_wp2_with fail
    obtain ⟨w1, hw1⟩ : ∃ x, w.alloc (.cells #[.slice A p.locs.length c, .int .i64 p.len, .int .i64 p.birth, .string (bstr p.sum)] 25) = x := ⟨_, rfl⟩
    obtain ⟨ib0, hib0⟩ : ∃ i, w.heap.size = i := ⟨_, rfl⟩
    have b0 : Blk w1 ib0 25 #[.slice A p.locs.length c, .int .i64 p.len, .int .i64 p.birth, .string (bstr p.sum)] := by rw [← hw1, ← hib0]; exact Blk.new _ _ _
    have k1 : Below w.heap.size w w1 := by rw [← hw1]; exact (Below.refl _ _).alloc (Nat.le_refl _) _
    have zb0 : w1.heap.size = ib0 + 1 := by rw [← hw1, ← hib0]; simp
    rw [hw1, hib0]
    have hR := hR.moved k1
    have bel := hthen bel k1
    clear k1
    clear hw1 hib0
    have b0c0 := b0.cell 0
    have b0c1 := b0.cell 1
    have b0c2 := b0.cell 2
    have b0c3 := b0.cell 3
    simp at b0c0 b0c1 b0c2 b0c3
    have b0lt := b0.lt
    try (go_wp2_with fail)
    refine (live_ok _ hR).mono ?_
    rintro e w2 ⟨rfl, k2⟩
    clear b0c0 b0c1 b0c2 b0c3 b0lt
    have b0 := b0.below k2 b0.lt
    have hR := hR.moved k2
    have bel := hthen bel k2
    clear k2
    go_wp2
    go_ret
    exact ⟨rfl, bel⟩
  have qg2 : decide ((p.sum.length : Int) > 100) = false := decide_eq_false (by omega)
  by_cases g3 : 960 < a1.length
  · have qg3 : decide ((a1.length : Int) > 960) = true := decide_eq_true (by omega)
    go_enter Tryd.func4, Tryd.ntmps4
    go_wp2_with fail
    obtain ⟨w1, hw1⟩ : ∃ x, w.alloc (.cells #[.slice A p.locs.length c, .int .i64 p.len, .int .i64 p.birth, .string (bstr p.sum)] 25) = x := ⟨_, rfl⟩
    obtain ⟨ib0, hib0⟩ : ∃ i, w.heap.size = i := ⟨_, rfl⟩
    have b0 : Blk w1 ib0 25 #[.slice A p.locs.length c, .int .i64 p.len, .int .i64 p.birth, .string (bstr p.sum)] := by rw [← hw1, ← hib0]; exact Blk.new _ _ _
    have k1 : Below w.heap.size w w1 := by rw [← hw1]; exact (Below.refl _ _).alloc (Nat.le_refl _) _
    have zb0 : w1.heap.size = ib0 + 1 := by rw [← hw1, ← hib0]; simp
    rw [hw1, hib0]
    have hR := hR.moved k1
    have bel := hthen bel k1
    clear k1
    clear hw1 hib0
    have b0c0 := b0.cell 0
    have b0c1 := b0.cell 1
    have b0c2 := b0.cell 2
    have b0c3 := b0.cell 3
    simp at b0c0 b0c1 b0c2 b0c3
    have b0lt := b0.lt
    try (go_wp2_with fail)
    refine (live_ok _ hR).mono ?_
    rintro e w2 ⟨rfl, k2⟩
    clear b0c0 b0c1 b0c2 b0c3 b0lt
    have b0 := b0.below k2 b0.lt
    have hR := hR.moved k2
    have bel := hthen bel k2
    clear k2
    go_wp2
    go_ret
    exact ⟨rfl, bel⟩
  have qg3 : decide ((a1.length : Int) > 960) = false := decide_eq_false (by omega)
  obtain ⟨e0, hx, he⟩ := readB_nil p
  have HX := Lib.hid hx
  have HE := Lib.hid he
  have qe : (e0 == 0) = false := beq_eq_false_iff_ne.2 he
  have qe2 : (e0 != 0) = true := by simp [he]
  have HCK := Lib.hid (P1_ok (load := a1) (by omega))
  clear hx he
  go_enter Tryd.func4, Tryd.ntmps4
  go_wp2_with fail
  obtain ⟨w1, hw1⟩ : ∃ x, w.alloc (.cells #[.slice A p.locs.length c, .int .i64 p.len, .int .i64 p.birth, .string (bstr p.sum)] 25) = x := ⟨_, rfl⟩
  obtain ⟨ib0, hib0⟩ : ∃ i, w.heap.size = i := ⟨_, rfl⟩
  have b0 : Blk w1 ib0 25 #[.slice A p.locs.length c, .int .i64 p.len, .int .i64 p.birth, .string (bstr p.sum)] := by rw [← hw1, ← hib0]; exact Blk.new _ _ _
  have k1 : Below w.heap.size w w1 := by rw [← hw1]; exact (Below.refl _ _).alloc (Nat.le_refl _) _
  have zb0 : w1.heap.size = ib0 + 1 := by rw [← hw1, ← hib0]; simp
  rw [hw1, hib0]
  have hR := hR.moved k1
  have bel := hthen bel k1
  clear k1
  clear hw1 hib0
  obtain ⟨w2, hw2⟩ : ∃ x, w1.alloc (.cells #[.int .i64 0, .int .i64 1] 33) = x := ⟨_, rfl⟩
  obtain ⟨ibl, hibl⟩ : ∃ i, w1.heap.size = i := ⟨_, rfl⟩
  have bl : Blk w2 ibl 33 #[.int .i64 0, .int .i64 1] := by rw [← hw2, ← hibl]; exact Blk.new _ _ _
  have k2 : Below w1.heap.size w1 w2 := by rw [← hw2]; exact (Below.refl _ _).alloc (Nat.le_refl _) _
  have zbl : w2.heap.size = ibl + 1 := by rw [← hw2, ← hibl]; simp
  rw [hw2, ← zb0, hibl]
  have b0 := b0.below k2 b0.lt
  have hR := hR.moved k2
  have bel := hthen bel k2
  clear k2
  clear hw2 hibl
  clear zb0
  refine (write_nil1 _ ⟨0, 1⟩ a1 HCK.out _ hR (lit1 (S := fun _ => False) (a := ⟨0, 1⟩) bl (fun e => e)).at_).mono ?_
  rintro e w3 ⟨rfl, k3⟩
  have b0 := b0.below k3 b0.lt
  have bl := bl.below k3 bl.lt
  have hR := hR.moved k3
  have bel := hthen bel k3
  clear k3
  have b0c0 := b0.cell 0
  have b0c1 := b0.cell 1
  have b0c2 := b0.cell 2
  have b0c3 := b0.cell 3
  simp at b0c0 b0c1 b0c2 b0c3
  have b0lt := b0.lt
  have blc0 := bl.cell 0
  have blc1 := bl.cell 1
  simp at blc0 blc1
  have bllt := bl.lt
  go_upto_region 4 with fail
  clear b0c0 b0c1 b0c2 b0c3 b0lt blc0 blc1 bllt
  obtain ⟨w4, hw4⟩ : ∃ x, w3.alloc (.cells #[.slice none 0 0, .int .i64 0, .int .i64 0, .string ⟨#[]⟩] 25) = x := ⟨_, rfl⟩
  obtain ⟨ib1, hib1⟩ : ∃ i, w3.heap.size = i := ⟨_, rfl⟩
  have b1 : Blk w4 ib1 25 #[.slice none 0 0, .int .i64 0, .int .i64 0, .string ⟨#[]⟩] := by rw [← hw4, ← hib1]; exact Blk.new _ _ _
  have k4 : Below w3.heap.size w3 w4 := by rw [← hw4]; exact (Below.refl _ _).alloc (Nat.le_refl _) _
  have zb1 : w4.heap.size = ib1 + 1 := by rw [← hw4, ← hib1]; simp
  rw [hw4, hib1]
  have b0 := b0.below k4 b0.lt
  have bl := bl.below k4 bl.lt
  have hR := hR.moved k4
  have bel := hthen bel k4
  clear k4
  clear hw4 hib1
  have b0c0 := b0.cell 0
  have b0c1 := b0.cell 1
  have b0c2 := b0.cell 2
  have b0c3 := b0.cell 3
  simp at b0c0 b0c1 b0c2 b0c3
  have b0lt := b0.lt
  have blc0 := bl.cell 0
  have blc1 := bl.cell 1
  simp at blc0 blc1
  have bllt := bl.lt
  have b1c0 := b1.cell 0
  have b1c1 := b1.cell 1
  have b1c2 := b1.cell 2
  have b1c3 := b1.cell 3
  simp at b1c0 b1c1 b1c2 b1c3
  have b1lt := b1.lt
  go_wp2_with fail
  refine (bread_to (dp := none) HX.out _ hR (HV.out.keep bel bel.size) (fun T _ => nil_reads T _)).mono ?_
  rintro e w5 ⟨rfl, k5⟩
  clear b0c0 b0c1 b0c2 b0c3 b0lt blc0 blc1 bllt b1c0 b1c1 b1c2 b1c3 b1lt
  have b0 := b0.below k5 b0.lt
  have bl := bl.below k5 bl.lt
  have b1 := b1.below k5 b1.lt
  have hR := hR.moved k5
  have bel := hthen bel k5
  clear k5
  have b0c0 := b0.cell 0
  have b0c1 := b0.cell 1
  have b0c2 := b0.cell 2
  have b0c3 := b0.cell 3
  simp at b0c0 b0c1 b0c2 b0c3
  have b0lt := b0.lt
  have blc0 := bl.cell 0
  have blc1 := bl.cell 1
  simp at blc0 blc1
  have bllt := bl.lt
  have b1c0 := b1.cell 0
  have b1c1 := b1.cell 1
  have b1c2 := b1.cell 2
  have b1c3 := b1.cell 3
  simp at b1c0 b1c1 b1c2 b1c3
  have b1lt := b1.lt
  go_wp2_with fail
  refine (mend_bad none _ rdNil p [] 0 e0 HX.out HE.out _ hR (HV.out.keep bel bel.size) (fun T _ => nil_reads T _)).mono ?_
  rintro e w6 ⟨rfl, k6⟩
  clear b0c0 b0c1 b0c2 b0c3 b0lt blc0 blc1 bllt b1c0 b1c1 b1c2 b1c3 b1lt
  have b0 := b0.below k6 b0.lt
  have bl := bl.below k6 bl.lt
  have b1 := b1.below k6 b1.lt
  have hR := hR.moved k6
  have bel := hthen bel k6
  clear k6
  clear qg1 qg2 qg3
  have b0c0 := b0.cell 0
  have b0c1 := b0.cell 1
  have b0c2 := b0.cell 2
  have b0c3 := b0.cell 3
  simp at b0c0 b0c1 b0c2 b0c3
  have b0lt := b0.lt
  have blc0 := bl.cell 0
  have blc1 := bl.cell 1
  simp at blc0 blc1
  have bllt := bl.lt
  have b1c0 := b1.cell 0
  have b1c1 := b1.cell 1
  have b1c2 := b1.cell 2
  have b1c3 := b1.cell 3
  simp at b1c0 b1c1 b1c2 b1c3
  have b1lt := b1.lt
  go_wp2_with fail
  refine (live_ok _ hR).mono ?_
  rintro e w7 ⟨rfl, k7⟩
  clear b0c0 b0c1 b0c2 b0c3 b0lt blc0 blc1 bllt b1c0 b1c1 b1c2 b1c3 b1lt
  have b0 := b0.below k7 b0.lt
  have bl := bl.below k7 bl.lt
  have b1 := b1.below k7 b1.lt
  have hR := hR.moved k7
  have bel := hthen bel k7
  clear k7
  go_wp2
  go_ret
  exact ⟨rfl, bel⟩
end Go.Proofs.YtmdjbmhjnajpgaaDoor
