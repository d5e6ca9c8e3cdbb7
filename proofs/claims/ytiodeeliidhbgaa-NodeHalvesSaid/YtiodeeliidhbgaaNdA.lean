/- With (a key that is there; what may not be) and Without of package node: contracts. -/
import Derived.Test.YtiodeeliidhbgaaNd9
namespace Go.Proofs.Ytiodeeliidhbgaa
open Go Go.RowKit
set_option linter.unusedSimpArgs false
set_option linter.unnecessarySimpa false
set_option linter.unusedVariables false

theorem at_spec {ks : List (List UInt8)} {key : List UInt8} {p : Nat} (h : isAt ks key p = true) : p < ks.length ∧ ks.getD p [] = key := by
  unfold isAt at h
  exact of_decide_eq_true h
theorem there_keys {ks : List (List UInt8)} {key : List UInt8} {p : Nat} (h : isAt ks key p = true) : ks.take p ++ key :: ks.drop (p + 1) = ks := by
  obtain ⟨h1, h2⟩ := at_spec h
  rw [List.getD_eq_getElem?_getD, List.getElem?_eq_getElem h1] at h2
  simp only [Option.getD_some] at h2
  rw [← h2, ← List.drop_eq_getElem_cons h1, List.take_append_drop]
theorem set_split {vs : List (List UInt8)} {p : Nat} (h : p < vs.length) (val : List UInt8) : vs.set p val = vs.take p ++ val :: vs.drop (p + 1) := by
  rw [List.set_eq_take_append_cons_drop, if_pos h]

set_option maxRecDepth 100000 in
set_option maxHeartbeats 4000000 in
theorem with_old (leaf : Bool) (ks vs : List (List UInt8)) (vk vv : Value) (key val : List UInt8) (hm : mayB ⟨leaf, ks, vs⟩ = true) (hp : plB key val = true) (ha : thereN ⟨leaf, ks, vs⟩ key = true) (w : World) (h : NdV w (.agg #[.bool leaf, vk, vv]) ⟨leaf, ks, vs⟩) :
    Calls Try.prog 27 #[.agg #[.bool leaf, vk, vv], .string (bstr key), .string (bstr val)] w fun e w' => ∃ u, e = .returned u ∧ NdV w' u (withN ⟨leaf, ks, vs⟩ key val) ∧ Below w.heap.size w w' := by
  obtain ⟨_, _, e, h1, h2⟩ := h
  cases e
  obtain ⟨A, c, rfl⟩ := h1.form
  obtain ⟨C, d, rfl⟩ := h2.form
  simp only at h1 h2
  obtain ⟨hs1, hs2⟩ := may_small hm
  have hparts := parts_lb (ord_of_may hm) key
  have hplace : placeN ⟨leaf, ks, vs⟩ key = lbN key ks := rfl
  have hthere : isAt ks key (lbN key ks) = true := ha
  have hstep : stepN ⟨leaf, ks, vs⟩ key = 1 := by unfold stepN; rw [ha]; rfl
  have hw : withN ⟨leaf, ks, vs⟩ key val = ⟨leaf, ks, vs.set (lbN key ks) val⟩ := by
    have h2 : lbN key ks < vs.length := by have := (at_spec hthere).1; simp only at hs2; omega
    rw [set_split h2]
    unfold withN
    rw [hm, hp, hstep, hplace]
    simp only [Bool.and_true, if_true, there_keys hthere]
  obtain ⟨p, hpp⟩ : ∃ p, lbN key ks = p := ⟨_, rfl⟩
  rw [hpp] at hparts hthere hw
  simp only at hs1 hs2
  have hple := hparts.le
  have HP := Lib.hid hparts
  have HT := Lib.hid hthere
  have HW := Lib.hid hw
  have HM := Lib.hid hm
  have HPL := Lib.hid hp
  clear hparts hthere hw hm hp ha hplace hstep hpp
  have p1 := Blk.new (w.alloc (.cells #[.bool leaf, .slice A ks.length c, .slice C vs.length d] 30)) 30 #[.bool false, .slice none 0 0, .slice none 0 0]
  have p0 := (Blk.new w 30 #[.bool leaf, .slice A ks.length c, .slice C vs.length d]).alloc (.cells #[.bool false, .slice none 0 0, .slice none 0 0] 30)
  have k0 : Below w.heap.size w ((w.alloc (.cells #[.bool leaf, .slice A ks.length c, .slice C vs.length d] 30)).alloc (.cells #[.bool false, .slice none 0 0, .slice none 0 0] 30)) := ((Below.refl _ _).alloc (Nat.le_refl _) _).alloc (by simp) _
  have e1 : (w.alloc (.cells #[.bool leaf, .slice A ks.length c, .slice C vs.length d] 30)).heap.size = w.heap.size + 1 := by simp
  rw [e1] at p1
  have hk0 := h1.below k0
  have hv0 := h2.below k0
  have y0 := p0.cell 0
  have y1 := p0.cell 1
  have y2 := p0.cell 2
  simp at y0 y1 y2
  have HL2 := Lib.hid hs2
  clear e1 h1 h2 hs2
  go_enter Try.func27, Try.ntmps27
  go_wp2_with fail
  obtain ⟨w0, hw0⟩ : ∃ x, (w.alloc (.cells #[.bool leaf, .slice A ks.length c, .slice C vs.length d] 30)).alloc (.cells #[.bool false, .slice none 0 0, .slice none 0 0] 30) = x := ⟨_, rfl⟩
  rw [hw0] at p0 p1 k0 hk0 hv0 ⊢
  obtain ⟨G, hG⟩ : ∃ x, w.heap.size = x := ⟨_, rfl⟩
  rw [hG] at p0 p1 ⊢
  have kG : Below G w w0 := hG ▸ k0
  clear hw0 y0 y1 y2
  refine (may_to HM.out _ w0 ⟨_, _, rfl, hk0, hv0⟩ (by show ks.length ≤ 1000000; omega) (by show vs.length ≤ 1000000; rw [HL2.out]; omega)).mono ?_
  rintro e w1 ⟨rfl, k1⟩
  have p0 := p0.below k1 p0.lt
  have p1 := p1.below k1 p1.lt
  have hk0 := hk0.below k1
  have hv0 := hv0.below k1
  have k0 := hthen k0 k1
  have k1s := k0.size
  have y0 := p0.cell 0
  have y1 := p0.cell 1
  have y2 := p0.cell 2
  simp at y0 y1 y2
  clear k1 kG
  go_wp2_with fail
  refine (plain_to HPL.out w1).mono ?_
  rintro e w1 ⟨rfl, rfl⟩
  go_wp2_with fail
  refine (copied_any _ ⟨leaf, ks, vs⟩ w1 ⟨_, _, rfl, hk0, hv0⟩ (by show ks.length ≤ 1000000; omega) (by show vs.length ≤ 1000000; rw [HL2.out]; omega)).mono ?_
  rintro e w2 ⟨_, rfl, ⟨uk, uv, rfl, o1, o2, one⟩, k2⟩
  obtain ⟨A1, c1, rfl⟩ := orow_form o1
  obtain ⟨C1, d1, rfl⟩ := orow_form o2
  simp only at o1 o2 one
  have p0 := p0.below k2 p0.lt
  have p1 := p1.below k2 p1.lt
  have k0 := hthen k0 k2
  have y0 := p0.cell 0
  have y1 := p0.cell 1
  have y2 := p0.cell 2
  have f0 := p0.frozen 0
  have f1 := p0.frozen 1
  have f2 := p0.frozen 2
  simp at y0 y1 y2
  clear hk0 hv0
  go_wp2_with fail
  obtain ⟨w3, hw3⟩ : ∃ x, ((w2.setCell ⟨G, 0, none⟩ (.bool leaf)).setCell ⟨G, 1, none⟩ (.slice A1 ks.length c1)).setCell ⟨G, 2, none⟩ (.slice C1 vs.length d1) = x := ⟨_, rfl⟩
  have n1 : (Value.slice A1 ks.length c1).ownBlock ≠ some G := row_ne o1 p0 (by decide)
  have n2 : (Value.slice C1 vs.length d1).ownBlock ≠ some G := row_ne o2 p0 (by decide)
  have x0 : Blk w3 G 30 #[.bool leaf, .slice A1 ks.length c1, .slice C1 vs.length d1] := by
    have := ((p0.set_ 0 (.bool leaf)).set_ 1 (.slice A1 ks.length c1)).set_ 2 (.slice C1 vs.length d1)
    rw [← hw3]
    simpa using this
  have x1 : Blk w3 (G + 1) 30 #[.bool false, .slice none 0 0, .slice none 0 0] := by
    rw [← hw3]
    exact ((p1.far (p := ⟨G, 0, none⟩) (by simp) _).far (p := ⟨G, 1, none⟩) (by simp) _).far (p := ⟨G, 2, none⟩) (by simp) _
  have o1 := row_set (i := 2) (row_set (i := 1) (row_set (i := 0) o1 n1 (.bool leaf)) n1 (.slice A1 ks.length c1)) n1 (.slice C1 vs.length d1)
  have o2 := row_set (i := 2) (row_set (i := 1) (row_set (i := 0) o2 n2 (.bool leaf)) n2 (.slice A1 ks.length c1)) n2 (.slice C1 vs.length d1)
  have k3 : Below w.heap.size w w3 := by
    rw [← hw3]
    exact below_at (below_at (below_at k0 (Nat.le_of_eq hG) _ _) (Nat.le_of_eq hG) _ _) (Nat.le_of_eq hG) _ _
  have s12 : w.heap.size ≤ w1.heap.size := k1s
  rw [hw3] at o1 o2 ⊢
  have o1 := row_base o1 s12
  have o2 := row_base o2 s12
  have y0 := x0.cell 0
  have y1 := x0.cell 1
  have y2 := x0.cell 2
  have f0 := x0.frozen 0
  have f1 := x0.frozen 1
  have f2 := x0.frozen 2
  simp at y0 y1 y2
  clear hw3 p0 p1 k0
  have hpl := (at_spec HT.out).1
  have hpv : p < vs.length := by rw [HL2.out]; exact hpl
  have ng1 := row_ne o1 x1 (by decide)
  have ng2 := row_ne o2 x1 (by decide)
  refine (bs_to HT.out _ HP.out (by omega) w3 (ss_row o1)).mono ?_
  rintro e w3 ⟨rfl, rfl⟩
  obtain ⟨g3, c4, e3⟩ := orow_pos o2 (by omega)
  cases e3
  have m1 := row_ne o1 x0 (by decide)
  have m2 := row_ne o2 x0 (by decide)
  have hg3 : w.heap.size ≤ g3 := (o2.lt g3 rfl).1
  have hne0 : g3 ≠ G := fun e => m2 (by rw [e]; rfl)
  have hne1 : g3 ≠ G + 1 := fun e => ng2 (by rw [e]; rfl)
  obtain ⟨z, hz, hfz⟩ := row_slot o2 hpv
  have r2' := row_put o2 hpv val
  have r1' := row_set (i := p) o1 (fun e => one _ e rfl) (.string (bstr val))
  have t0' := x0.far (p := ⟨g3, p, none⟩) (fun e => hne0 e.symm) (.string (bstr val))
  have t1' := x1.far (p := ⟨g3, p, none⟩) (fun e => hne1 e.symm) (.string (bstr val))
  have bel' := below_at k3 hg3 p (.string (bstr val))
  obtain ⟨W, hW⟩ : ∃ y, w3.setCell ⟨g3, p, none⟩ (.string (bstr val)) = y := ⟨_, rfl⟩
  rw [hW] at r1' r2' t0' t1' bel'
  have t0 := t0'.cell 0
  have t1 := t0'.cell 1
  have t2 := t0'.cell 2
  have q0 := t1'.cell 0
  have q1 := t1'.cell 1
  have q2 := t1'.cell 2
  have h0 := t1'.frozen 0
  have h1 := t1'.frozen 1
  have h2 := t1'.frozen 2
  simp at t0 t1 t2 q0 q1 q2
  have T0 : (0 : Int) ≤ p := by omega
  have T1 : (p : Int) < vs.length := by omega
  go_wp2
  have ss1 := row_set (i := 2) (row_set (i := 1) (row_set (i := 0) r1' ng1 (.bool leaf)) ng1 (.slice A1 ks.length c1)) ng1 (.slice (some ⟨g3, 0, none⟩) vs.length d1)
  have ss2 := row_set (i := 2) (row_set (i := 1) (row_set (i := 0) r2' ng2 (.bool leaf)) ng2 (.slice A1 ks.length c1)) ng2 (.slice (some ⟨g3, 0, none⟩) vs.length d1)
  have x2 : Blk (((W.setCell ⟨G + 1, 0, none⟩ (.bool leaf)).setCell ⟨G + 1, 1, none⟩ (.slice A1 ks.length c1)).setCell ⟨G + 1, 2, none⟩ (.slice (some ⟨g3, 0, none⟩) vs.length d1)) (G + 1) 30 #[.bool leaf, .slice A1 ks.length c1, .slice (some ⟨g3, 0, none⟩) vs.length d1] := by
    have := ((t1'.set_ 0 (.bool leaf)).set_ 1 (.slice A1 ks.length c1)).set_ 2 (.slice (some ⟨g3, 0, none⟩) vs.length d1)
    simpa using this
  have v0 := x2.cell 0
  have v1 := x2.cell 1
  have v2 := x2.cell 2
  simp at v0 v1 v2
  refine bodyPost_ret (v := .agg #[.bool leaf, .slice A1 ks.length c1, .slice (some ⟨g3, 0, none⟩) vs.length d1]) ?h1 rfl ?h2
  case h1 => simp [results, Try.results27, go_sem, v0, v1, v2]
  case h2 =>
    have hle : w.heap.size ≤ G + 1 := by omega
    exact ⟨_, rfl, by rw [HW.out]; exact ⟨_, _, rfl, ss_row ss1, ss_row ss2⟩, below_at (below_at (below_at bel' hle _ _) hle _ _) hle _ _⟩

set_option maxHeartbeats 1000000 in
theorem with_bad (n : Nd) (v : Value) (key val : List UInt8) (w : World) (h : NdV w v n) (hk : n.keys.length ≤ 1000000) (hv : n.vals.length ≤ 1000000) (hm : mayB n = false) :
    Calls Try.prog 27 #[v, .string (bstr key), .string (bstr val)] w fun e w' => ∃ u, e = .returned u ∧ NdV w' u n ∧ Below w.heap.size w w' := by
  have hnn := h
  obtain ⟨vk, vv, rfl, h1, h2⟩ := h
  obtain ⟨A, c, rfl⟩ := h1.form
  obtain ⟨C, d, rfl⟩ := h2.form
  obtain ⟨leaf, ks, vs⟩ := n
  simp only at h1 h2 hk hv hnn hm ⊢
  have p1 := Blk.new (w.alloc (.cells #[.bool leaf, .slice A ks.length c, .slice C vs.length d] 30)) 30 #[.bool false, .slice none 0 0, .slice none 0 0]
  have p0 := (Blk.new w 30 #[.bool leaf, .slice A ks.length c, .slice C vs.length d]).alloc (.cells #[.bool false, .slice none 0 0, .slice none 0 0] 30)
  have k0 : Below w.heap.size w ((w.alloc (.cells #[.bool leaf, .slice A ks.length c, .slice C vs.length d] 30)).alloc (.cells #[.bool false, .slice none 0 0, .slice none 0 0] 30)) := ((Below.refl _ _).alloc (Nat.le_refl _) _).alloc (by simp) _
  have e1 : (w.alloc (.cells #[.bool leaf, .slice A ks.length c, .slice C vs.length d] 30)).heap.size = w.heap.size + 1 := by simp
  rw [e1] at p1
  have hN := hnn.below k0
  have y0 := p0.cell 0
  have y1 := p0.cell 1
  have y2 := p0.cell 2
  simp at y0 y1 y2
  have HNN := Lib.hid hnn
  have HM := Lib.hid hm
  clear e1 h1 h2 hnn hm
  go_enter Try.func27, Try.ntmps27
  go_wp2_with fail
  obtain ⟨w0, hw0⟩ : ∃ x, (w.alloc (.cells #[.bool leaf, .slice A ks.length c, .slice C vs.length d] 30)).alloc (.cells #[.bool false, .slice none 0 0, .slice none 0 0] 30) = x := ⟨_, rfl⟩
  rw [hw0] at p0 p1 k0 hN ⊢
  obtain ⟨G, hG⟩ : ∃ x, w.heap.size = x := ⟨_, rfl⟩
  rw [hG] at p0 p1 ⊢
  clear hw0 y0 y1 y2
  refine (may_to HM.out _ w0 hN hk hv).mono ?_
  rintro e w1 ⟨rfl, k1⟩
  have p0 := p0.below k1 p0.lt
  have p1 := p1.below k1 p1.lt
  have k0 := hthen k0 k1
  have y0 := p0.cell 0
  have y1 := p0.cell 1
  have y2 := p0.cell 2
  have f0 := p1.frozen 0
  have f1 := p1.frozen 1
  have f2 := p1.frozen 2
  have z0 := p1.cell 0
  have z1 := p1.cell 1
  have z2 := p1.cell 2
  simp at y0 y1 y2 z0 z1 z2
  go_wp2
  have x2 : Blk (((w1.setCell ⟨G + 1, 0, none⟩ (.bool leaf)).setCell ⟨G + 1, 1, none⟩ (.slice A ks.length c)).setCell ⟨G + 1, 2, none⟩ (.slice C vs.length d)) (G + 1) 30 #[.bool leaf, .slice A ks.length c, .slice C vs.length d] := by
    have := ((p1.set_ 0 (.bool leaf)).set_ 1 (.slice A ks.length c)).set_ 2 (.slice C vs.length d)
    simpa using this
  have v0 := x2.cell 0
  have v1 := x2.cell 1
  have v2 := x2.cell 2
  simp at v0 v1 v2
  refine bodyPost_ret (v := .agg #[.bool leaf, .slice A ks.length c, .slice C vs.length d]) ?h1 rfl ?h2
  case h1 => simp [results, Try.results27, go_sem, v0, v1, v2]
  case h2 =>
    have hle : w.heap.size ≤ G + 1 := by omega
    have kk : Below w.heap.size w (((w1.setCell ⟨G + 1, 0, none⟩ (.bool leaf)).setCell ⟨G + 1, 1, none⟩ (.slice A ks.length c)).setCell ⟨G + 1, 2, none⟩ (.slice C vs.length d)) := below_at (below_at (below_at k0 hle _ _) hle _ _) hle _ _
    exact ⟨_, rfl, HNN.below kk, kk⟩

set_option maxHeartbeats 1000000 in
theorem with_bad2 (n : Nd) (v : Value) (key val : List UInt8) (w : World) (h : NdV w v n) (hk : n.keys.length ≤ 1000000) (hv : n.vals.length ≤ 1000000) (hm : mayB n = true) (hp : plB key val = false) :
    Calls Try.prog 27 #[v, .string (bstr key), .string (bstr val)] w fun e w' => ∃ u, e = .returned u ∧ NdV w' u n ∧ Below w.heap.size w w' := by
  have hnn := h
  obtain ⟨vk, vv, rfl, h1, h2⟩ := h
  obtain ⟨A, c, rfl⟩ := h1.form
  obtain ⟨C, d, rfl⟩ := h2.form
  obtain ⟨leaf, ks, vs⟩ := n
  simp only at h1 h2 hk hv hnn hm ⊢
  have p1 := Blk.new (w.alloc (.cells #[.bool leaf, .slice A ks.length c, .slice C vs.length d] 30)) 30 #[.bool false, .slice none 0 0, .slice none 0 0]
  have p0 := (Blk.new w 30 #[.bool leaf, .slice A ks.length c, .slice C vs.length d]).alloc (.cells #[.bool false, .slice none 0 0, .slice none 0 0] 30)
  have k0 : Below w.heap.size w ((w.alloc (.cells #[.bool leaf, .slice A ks.length c, .slice C vs.length d] 30)).alloc (.cells #[.bool false, .slice none 0 0, .slice none 0 0] 30)) := ((Below.refl _ _).alloc (Nat.le_refl _) _).alloc (by simp) _
  have e1 : (w.alloc (.cells #[.bool leaf, .slice A ks.length c, .slice C vs.length d] 30)).heap.size = w.heap.size + 1 := by simp
  rw [e1] at p1
  have hN := hnn.below k0
  have y0 := p0.cell 0
  have y1 := p0.cell 1
  have y2 := p0.cell 2
  simp at y0 y1 y2
  have HNN := Lib.hid hnn
  have HM := Lib.hid hm
  have HPL := Lib.hid hp
  clear e1 h1 h2 hnn hm hp
  go_enter Try.func27, Try.ntmps27
  go_wp2_with fail
  obtain ⟨w0, hw0⟩ : ∃ x, (w.alloc (.cells #[.bool leaf, .slice A ks.length c, .slice C vs.length d] 30)).alloc (.cells #[.bool false, .slice none 0 0, .slice none 0 0] 30) = x := ⟨_, rfl⟩
  rw [hw0] at p0 p1 k0 hN ⊢
  obtain ⟨G, hG⟩ : ∃ x, w.heap.size = x := ⟨_, rfl⟩
  rw [hG] at p0 p1 ⊢
  clear hw0 y0 y1 y2
  refine (may_to HM.out _ w0 hN hk hv).mono ?_
  rintro e w1 ⟨rfl, k1⟩
  have p0 := p0.below k1 p0.lt
  have p1 := p1.below k1 p1.lt
  have k0 := hthen k0 k1
  have y0 := p0.cell 0
  have y1 := p0.cell 1
  have y2 := p0.cell 2
  simp at y0 y1 y2
  clear k1
  go_wp2_with fail
  refine (plain_to HPL.out w1).mono ?_
  rintro e w1 ⟨rfl, rfl⟩
  clear y0 y1 y2
  have y0 := p0.cell 0
  have y1 := p0.cell 1
  have y2 := p0.cell 2
  have f0 := p1.frozen 0
  have f1 := p1.frozen 1
  have f2 := p1.frozen 2
  have z0 := p1.cell 0
  have z1 := p1.cell 1
  have z2 := p1.cell 2
  simp at y0 y1 y2 z0 z1 z2
  go_wp2
  have x2 : Blk (((w1.setCell ⟨G + 1, 0, none⟩ (.bool leaf)).setCell ⟨G + 1, 1, none⟩ (.slice A ks.length c)).setCell ⟨G + 1, 2, none⟩ (.slice C vs.length d)) (G + 1) 30 #[.bool leaf, .slice A ks.length c, .slice C vs.length d] := by
    have := ((p1.set_ 0 (.bool leaf)).set_ 1 (.slice A ks.length c)).set_ 2 (.slice C vs.length d)
    simpa using this
  have v0 := x2.cell 0
  have v1 := x2.cell 1
  have v2 := x2.cell 2
  simp at v0 v1 v2
  refine bodyPost_ret (v := .agg #[.bool leaf, .slice A ks.length c, .slice C vs.length d]) ?h1 rfl ?h2
  case h1 => simp [results, Try.results27, go_sem, v0, v1, v2]
  case h2 =>
    have hle : w.heap.size ≤ G + 1 := by omega
    have kk : Below w.heap.size w (((w1.setCell ⟨G + 1, 0, none⟩ (.bool leaf)).setCell ⟨G + 1, 1, none⟩ (.slice A ks.length c)).setCell ⟨G + 1, 2, none⟩ (.slice C vs.length d)) := below_at (below_at (below_at k0 hle _ _) hle _ _) hle _ _
    exact ⟨_, rfl, HNN.below kk, kk⟩

set_option maxHeartbeats 1000000 in
theorem without_bad (n : Nd) (v : Value) (key : List UInt8) (w : World) (h : NdV w v n) (hk : n.keys.length ≤ 1000000) (hv : n.vals.length ≤ 1000000) (hm : mayB n = false) :
    Calls Try.prog 29 #[v, .string (bstr key)] w fun e w' => ∃ u, e = .returned u ∧ NdV w' u n ∧ Below w.heap.size w w' := by
  have hnn := h
  obtain ⟨vk, vv, rfl, h1, h2⟩ := h
  obtain ⟨A, c, rfl⟩ := h1.form
  obtain ⟨C, d, rfl⟩ := h2.form
  obtain ⟨leaf, ks, vs⟩ := n
  simp only at h1 h2 hk hv hnn hm ⊢
  have p1 := Blk.new (w.alloc (.cells #[.bool leaf, .slice A ks.length c, .slice C vs.length d] 30)) 30 #[.bool false, .slice none 0 0, .slice none 0 0]
  have p0 := (Blk.new w 30 #[.bool leaf, .slice A ks.length c, .slice C vs.length d]).alloc (.cells #[.bool false, .slice none 0 0, .slice none 0 0] 30)
  have k0 : Below w.heap.size w ((w.alloc (.cells #[.bool leaf, .slice A ks.length c, .slice C vs.length d] 30)).alloc (.cells #[.bool false, .slice none 0 0, .slice none 0 0] 30)) := ((Below.refl _ _).alloc (Nat.le_refl _) _).alloc (by simp) _
  have e1 : (w.alloc (.cells #[.bool leaf, .slice A ks.length c, .slice C vs.length d] 30)).heap.size = w.heap.size + 1 := by simp
  rw [e1] at p1
  have hN := hnn.below k0
  have y0 := p0.cell 0
  have y1 := p0.cell 1
  have y2 := p0.cell 2
  simp at y0 y1 y2
  have HNN := Lib.hid hnn
  have HM := Lib.hid hm
  clear e1 h1 h2 hnn hm
  go_enter Try.func29, Try.ntmps29
  go_wp2_with fail
  obtain ⟨w0, hw0⟩ : ∃ x, (w.alloc (.cells #[.bool leaf, .slice A ks.length c, .slice C vs.length d] 30)).alloc (.cells #[.bool false, .slice none 0 0, .slice none 0 0] 30) = x := ⟨_, rfl⟩
  rw [hw0] at p0 p1 k0 hN ⊢
  obtain ⟨G, hG⟩ : ∃ x, w.heap.size = x := ⟨_, rfl⟩
  rw [hG] at p0 p1 ⊢
  clear hw0 y0 y1 y2
  refine (may_to HM.out _ w0 hN hk hv).mono ?_
  rintro e w1 ⟨rfl, k1⟩
  have p0 := p0.below k1 p0.lt
  have p1 := p1.below k1 p1.lt
  have k0 := hthen k0 k1
  have y0 := p0.cell 0
  have y1 := p0.cell 1
  have y2 := p0.cell 2
  have f0 := p1.frozen 0
  have f1 := p1.frozen 1
  have f2 := p1.frozen 2
  have z0 := p1.cell 0
  have z1 := p1.cell 1
  have z2 := p1.cell 2
  simp at y0 y1 y2 z0 z1 z2
  go_wp2
  have x2 : Blk (((w1.setCell ⟨G + 1, 0, none⟩ (.bool leaf)).setCell ⟨G + 1, 1, none⟩ (.slice A ks.length c)).setCell ⟨G + 1, 2, none⟩ (.slice C vs.length d)) (G + 1) 30 #[.bool leaf, .slice A ks.length c, .slice C vs.length d] := by
    have := ((p1.set_ 0 (.bool leaf)).set_ 1 (.slice A ks.length c)).set_ 2 (.slice C vs.length d)
    simpa using this
  have v0 := x2.cell 0
  have v1 := x2.cell 1
  have v2 := x2.cell 2
  simp at v0 v1 v2
  refine bodyPost_ret (v := .agg #[.bool leaf, .slice A ks.length c, .slice C vs.length d]) ?h1 rfl ?h2
  case h1 => simp [results, Try.results29, go_sem, v0, v1, v2]
  case h2 =>
    have hle : w.heap.size ≤ G + 1 := by omega
    have kk : Below w.heap.size w (((w1.setCell ⟨G + 1, 0, none⟩ (.bool leaf)).setCell ⟨G + 1, 1, none⟩ (.slice A ks.length c)).setCell ⟨G + 1, 2, none⟩ (.slice C vs.length d)) := below_at (below_at (below_at k0 hle _ _) hle _ _) hle _ _
    exact ⟨_, rfl, HNN.below kk, kk⟩

theorem with_any (n : Nd) (v : Value) (key val : List UInt8) (w : World) (h : NdV w v n) (hk : n.keys.length ≤ 1000000) (hv : n.vals.length ≤ 1000000) :
    Calls Try.prog 27 #[v, .string (bstr key), .string (bstr val)] w fun e w' => ∃ u, e = .returned u ∧ NdV w' u (withN n key val) ∧ Below w.heap.size w w' := by
  cases hm : mayB n
  · have e : withN n key val = n := by unfold withN; rw [hm]; rfl
    rw [e]
    exact with_bad n v key val w h hk hv hm
  · cases hp : plB key val
    · have e : withN n key val = n := by unfold withN; rw [hm, hp]; rfl
      rw [e]
      exact with_bad2 n v key val w h hk hv hm hp
    · obtain ⟨vk, vv, rfl, h1, h2⟩ := h
      obtain ⟨leaf, ks, vs⟩ := n
      cases ha : thereN ⟨leaf, ks, vs⟩ key
      · exact with_new leaf ks vs vk vv key val hm hp ha w ⟨_, _, rfl, h1, h2⟩
      · exact with_old leaf ks vs vk vv key val hm hp ha w ⟨_, _, rfl, h1, h2⟩
end Go.Proofs.Ytiodeeliidhbgaa
