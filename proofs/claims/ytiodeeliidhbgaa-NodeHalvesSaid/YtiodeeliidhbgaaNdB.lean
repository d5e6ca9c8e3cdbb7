/- Without of package node: contract. -/
import Derived.Test.YtiodeeliidhbgaaNdA
namespace Go.Proofs.Ytiodeeliidhbgaa
open Go Go.RowKit
set_option linter.unusedSimpArgs false
set_option linter.unnecessarySimpa false
set_option linter.unusedVariables false

set_option maxRecDepth 100000 in
set_option maxHeartbeats 4000000 in
theorem without_none (leaf : Bool) (ks vs : List (List UInt8)) (vk vv : Value) (key : List UInt8) (hm : mayB ⟨leaf, ks, vs⟩ = true) (ha : thereN ⟨leaf, ks, vs⟩ key = false) (w : World) (h : NdV w (.agg #[.bool leaf, vk, vv]) ⟨leaf, ks, vs⟩) :
    Calls Try.prog 29 #[.agg #[.bool leaf, vk, vv], .string (bstr key)] w fun e w' => ∃ u, e = .returned u ∧ NdV w' u (withoutN ⟨leaf, ks, vs⟩ key) ∧ Below w.heap.size w w' := by
  obtain ⟨_, _, e, h1, h2⟩ := h
  cases e
  obtain ⟨A, c, rfl⟩ := h1.form
  obtain ⟨C, d, rfl⟩ := h2.form
  simp only at h1 h2
  obtain ⟨hs1, hs2⟩ := may_small hm
  have hparts := parts_lb (ord_of_may hm) key
  have hplace : placeN ⟨leaf, ks, vs⟩ key = lbN key ks := rfl
  have hthere : isAt ks key (lbN key ks) = false := ha
  have hstep : stepN ⟨leaf, ks, vs⟩ key = 0 := by unfold stepN; rw [ha]; rfl
  have hw : withoutN ⟨leaf, ks, vs⟩ key = ⟨leaf, ks, vs⟩ := by
    unfold withoutN
    rw [hm, hstep, hplace]
    simp only [if_true, Nat.add_zero, List.take_append_drop]
  obtain ⟨p, hpp⟩ : ∃ p, lbN key ks = p := ⟨_, rfl⟩
  rw [hpp] at hparts hthere
  simp only at hs1 hs2
  have hple := hparts.le
  have HP := Lib.hid hparts
  have HT := Lib.hid hthere
  have HW := Lib.hid hw
  have HM := Lib.hid hm
  clear hparts hthere hw hm ha hplace hstep hpp
  have p1 := Blk.new (w.alloc (.cells #[.bool leaf, .slice A ks.length c, .slice C vs.length d] 30)) 30 #[.bool false, .slice none 0 0, .slice none 0 0]
  have p0 := (Blk.new w 30 #[.bool leaf, .slice A ks.length c, .slice C vs.length d]).alloc (.cells #[.bool false, .slice none 0 0, .slice none 0 0] 30)
  have k0 : Below w.heap.size w ((w.alloc (.cells #[.bool leaf, .slice A ks.length c, .slice C vs.length d] 30)).alloc (.cells #[.bool false, .slice none 0 0, .slice none 0 0] 30)) := ((Below.refl _ _).alloc (Nat.le_refl _) _).alloc (by simp) _
  have e1 : (w.alloc (.cells #[.bool leaf, .slice A ks.length c, .slice C vs.length d] 30)).heap.size = w.heap.size + 1 := by simp
  rw [e1] at p1
  have hk0 := h1.below k0
  have hv0 := h2.below k0
  have y0 := p0.cell 0
  have y1 := p0.cell 1
  have y2 := p0.cell 2
  simp at y0 y1 y2
  have HL2 := Lib.hid hs2
  clear e1 h1 h2 hs2
  go_enter Try.func29, Try.ntmps29
  go_wp2_with fail
  obtain ⟨w0, hw0⟩ : ∃ x, (w.alloc (.cells #[.bool leaf, .slice A ks.length c, .slice C vs.length d] 30)).alloc (.cells #[.bool false, .slice none 0 0, .slice none 0 0] 30) = x := ⟨_, rfl⟩
  rw [hw0] at p0 p1 k0 hk0 hv0 ⊢
  obtain ⟨G, hG⟩ : ∃ x, w.heap.size = x := ⟨_, rfl⟩
  rw [hG] at p0 p1 ⊢
  have kG : Below G w w0 := hG ▸ k0
  clear hw0 y0 y1 y2
  refine (may_to HM.out _ w0 ⟨_, _, rfl, hk0, hv0⟩ (by show ks.length ≤ 1000000; omega) (by show vs.length ≤ 1000000; rw [HL2.out]; omega)).mono ?_
  rintro e w1 ⟨rfl, k1⟩
  have p0 := p0.below k1 p0.lt
  have p1 := p1.below k1 p1.lt
  have hk0 := hk0.below k1
  have hv0 := hv0.below k1
  have k0 := hthen k0 k1
  have k1s := k0.size
  have y0 := p0.cell 0
  have y1 := p0.cell 1
  have y2 := p0.cell 2
  simp at y0 y1 y2
  clear k1 kG
  go_wp2_with fail
  refine (copied_any _ ⟨leaf, ks, vs⟩ w1 ⟨_, _, rfl, hk0, hv0⟩ (by show ks.length ≤ 1000000; omega) (by show vs.length ≤ 1000000; rw [HL2.out]; omega)).mono ?_
  rintro e w2 ⟨_, rfl, ⟨uk, uv, rfl, o1, o2, one⟩, k2⟩
  obtain ⟨A1, c1, rfl⟩ := orow_form o1
  obtain ⟨C1, d1, rfl⟩ := orow_form o2
  simp only at o1 o2 one
  have p0 := p0.below k2 p0.lt
  have p1 := p1.below k2 p1.lt
  have k0 := hthen k0 k2
  have y0 := p0.cell 0
  have y1 := p0.cell 1
  have y2 := p0.cell 2
  have f0 := p0.frozen 0
  have f1 := p0.frozen 1
  have f2 := p0.frozen 2
  simp at y0 y1 y2
  clear hk0 hv0
  go_wp2_with fail
  obtain ⟨w3, hw3⟩ : ∃ x, ((w2.setCell ⟨G, 0, none⟩ (.bool leaf)).setCell ⟨G, 1, none⟩ (.slice A1 ks.length c1)).setCell ⟨G, 2, none⟩ (.slice C1 vs.length d1) = x := ⟨_, rfl⟩
  have n1 : (Value.slice A1 ks.length c1).ownBlock ≠ some G := row_ne o1 p0 (by decide)
  have n2 : (Value.slice C1 vs.length d1).ownBlock ≠ some G := row_ne o2 p0 (by decide)
  have x0 : Blk w3 G 30 #[.bool leaf, .slice A1 ks.length c1, .slice C1 vs.length d1] := by
    have := ((p0.set_ 0 (.bool leaf)).set_ 1 (.slice A1 ks.length c1)).set_ 2 (.slice C1 vs.length d1)
    rw [← hw3]
    simpa using this
  have x1 : Blk w3 (G + 1) 30 #[.bool false, .slice none 0 0, .slice none 0 0] := by
    rw [← hw3]
    exact ((p1.far (p := ⟨G, 0, none⟩) (by simp) _).far (p := ⟨G, 1, none⟩) (by simp) _).far (p := ⟨G, 2, none⟩) (by simp) _
  have o1 := row_set (i := 2) (row_set (i := 1) (row_set (i := 0) o1 n1 (.bool leaf)) n1 (.slice A1 ks.length c1)) n1 (.slice C1 vs.length d1)
  have o2 := row_set (i := 2) (row_set (i := 1) (row_set (i := 0) o2 n2 (.bool leaf)) n2 (.slice A1 ks.length c1)) n2 (.slice C1 vs.length d1)
  have k3 : Below w.heap.size w w3 := by
    rw [← hw3]
    exact below_at (below_at (below_at k0 (Nat.le_of_eq hG) _ _) (Nat.le_of_eq hG) _ _) (Nat.le_of_eq hG) _ _
  have s12 : w.heap.size ≤ w1.heap.size := k1s
  rw [hw3] at o1 o2 ⊢
  have o1 := row_base o1 s12
  have o2 := row_base o2 s12
  have y0 := x0.cell 0
  have y1 := x0.cell 1
  have y2 := x0.cell 2
  have f0 := x0.frozen 0
  have f1 := x0.frozen 1
  have f2 := x0.frozen 2
  simp at y0 y1 y2
  clear hw3 p0 p1 k0
  have ng1 := row_ne o1 x1 (by decide)
  have ng2 := row_ne o2 x1 (by decide)
  have q0 := x1.cell 0
  have q1 := x1.cell 1
  have q2 := x1.cell 2
  have h0 := x1.frozen 0
  have h1 := x1.frozen 1
  have h2 := x1.frozen 2
  simp at q0 q1 q2
  refine (bs_to HT.out _ HP.out (by omega) w3 (ss_row o1)).mono ?_
  rintro e w3 ⟨rfl, rfl⟩
  go_wp2
  have ss1 := row_set (i := 2) (row_set (i := 1) (row_set (i := 0) o1 ng1 (.bool leaf)) ng1 (.slice A1 ks.length c1)) ng1 (.slice C1 vs.length d1)
  have ss2 := row_set (i := 2) (row_set (i := 1) (row_set (i := 0) o2 ng2 (.bool leaf)) ng2 (.slice A1 ks.length c1)) ng2 (.slice C1 vs.length d1)
  have x2 : Blk (((w3.setCell ⟨G + 1, 0, none⟩ (.bool leaf)).setCell ⟨G + 1, 1, none⟩ (.slice A1 ks.length c1)).setCell ⟨G + 1, 2, none⟩ (.slice C1 vs.length d1)) (G + 1) 30 #[.bool leaf, .slice A1 ks.length c1, .slice C1 vs.length d1] := by
    have := ((x1.set_ 0 (.bool leaf)).set_ 1 (.slice A1 ks.length c1)).set_ 2 (.slice C1 vs.length d1)
    simpa using this
  have v0 := x2.cell 0
  have v1 := x2.cell 1
  have v2 := x2.cell 2
  simp at v0 v1 v2
  refine bodyPost_ret (v := .agg #[.bool leaf, .slice A1 ks.length c1, .slice C1 vs.length d1]) ?h1 rfl ?h2
  case h1 => simp [results, Try.results29, go_sem, v0, v1, v2]
  case h2 =>
    have hle : w.heap.size ≤ G + 1 := by omega
    exact ⟨_, rfl, by rw [HW.out]; exact ⟨_, _, rfl, ss_row ss1, ss_row ss2⟩, below_at (below_at (below_at k3 hle _ _) hle _ _) hle _ _⟩

set_option maxRecDepth 100000 in
set_option maxHeartbeats 4000000 in
theorem without_here (leaf : Bool) (ks vs : List (List UInt8)) (vk vv : Value) (key : List UInt8) (hm : mayB ⟨leaf, ks, vs⟩ = true) (ha : thereN ⟨leaf, ks, vs⟩ key = true) (w : World) (h : NdV w (.agg #[.bool leaf, vk, vv]) ⟨leaf, ks, vs⟩) :
    Calls Try.prog 29 #[.agg #[.bool leaf, vk, vv], .string (bstr key)] w fun e w' => ∃ u, e = .returned u ∧ NdV w' u (withoutN ⟨leaf, ks, vs⟩ key) ∧ Below w.heap.size w w' := by
  obtain ⟨_, _, e, h1, h2⟩ := h
  cases e
  obtain ⟨A, c, rfl⟩ := h1.form
  obtain ⟨C, d, rfl⟩ := h2.form
  simp only at h1 h2
  obtain ⟨hs1, hs2⟩ := may_small hm
  have hparts := parts_lb (ord_of_may hm) key
  have hplace : placeN ⟨leaf, ks, vs⟩ key = lbN key ks := rfl
  have hthere : isAt ks key (lbN key ks) = true := ha
  have hstep : stepN ⟨leaf, ks, vs⟩ key = 1 := by unfold stepN; rw [ha]; rfl
  have hw : withoutN ⟨leaf, ks, vs⟩ key = ⟨leaf, ks.take (lbN key ks) ++ ks.drop (lbN key ks + 1), vs.take (lbN key ks) ++ vs.drop (lbN key ks + 1)⟩ := by
    unfold withoutN
    rw [hm, hstep, hplace]
    rfl
  obtain ⟨p, hpp⟩ : ∃ p, lbN key ks = p := ⟨_, rfl⟩
  rw [hpp] at hparts hthere hw
  simp only at hs1 hs2
  have hple := hparts.le
  have HP := Lib.hid hparts
  have HT := Lib.hid hthere
  have HW := Lib.hid hw
  have HM := Lib.hid hm
  clear hparts hthere hw hm ha hplace hstep hpp
  have p1 := Blk.new (w.alloc (.cells #[.bool leaf, .slice A ks.length c, .slice C vs.length d] 30)) 30 #[.bool false, .slice none 0 0, .slice none 0 0]
  have p0 := (Blk.new w 30 #[.bool leaf, .slice A ks.length c, .slice C vs.length d]).alloc (.cells #[.bool false, .slice none 0 0, .slice none 0 0] 30)
  have k0 : Below w.heap.size w ((w.alloc (.cells #[.bool leaf, .slice A ks.length c, .slice C vs.length d] 30)).alloc (.cells #[.bool false, .slice none 0 0, .slice none 0 0] 30)) := ((Below.refl _ _).alloc (Nat.le_refl _) _).alloc (by simp) _
  have e1 : (w.alloc (.cells #[.bool leaf, .slice A ks.length c, .slice C vs.length d] 30)).heap.size = w.heap.size + 1 := by simp
  rw [e1] at p1
  have hk0 := h1.below k0
  have hv0 := h2.below k0
  have y0 := p0.cell 0
  have y1 := p0.cell 1
  have y2 := p0.cell 2
  simp at y0 y1 y2
  have HL2 := Lib.hid hs2
  clear e1 h1 h2 hs2
  go_enter Try.func29, Try.ntmps29
  go_wp2_with fail
  obtain ⟨w0, hw0⟩ : ∃ x, (w.alloc (.cells #[.bool leaf, .slice A ks.length c, .slice C vs.length d] 30)).alloc (.cells #[.bool false, .slice none 0 0, .slice none 0 0] 30) = x := ⟨_, rfl⟩
  rw [hw0] at p0 p1 k0 hk0 hv0 ⊢
  obtain ⟨G, hG⟩ : ∃ x, w.heap.size = x := ⟨_, rfl⟩
  rw [hG] at p0 p1 ⊢
  have kG : Below G w w0 := hG ▸ k0
  clear hw0 y0 y1 y2
  refine (may_to HM.out _ w0 ⟨_, _, rfl, hk0, hv0⟩ (by show ks.length ≤ 1000000; omega) (by show vs.length ≤ 1000000; rw [HL2.out]; omega)).mono ?_
  rintro e w1 ⟨rfl, k1⟩
  have p0 := p0.below k1 p0.lt
  have p1 := p1.below k1 p1.lt
  have hk0 := hk0.below k1
  have hv0 := hv0.below k1
  have k0 := hthen k0 k1
  have k1s := k0.size
  have y0 := p0.cell 0
  have y1 := p0.cell 1
  have y2 := p0.cell 2
  simp at y0 y1 y2
  clear k1 kG
  go_wp2_with fail
  refine (copied_any _ ⟨leaf, ks, vs⟩ w1 ⟨_, _, rfl, hk0, hv0⟩ (by show ks.length ≤ 1000000; omega) (by show vs.length ≤ 1000000; rw [HL2.out]; omega)).mono ?_
  rintro e w2 ⟨_, rfl, ⟨uk, uv, rfl, o1, o2, one⟩, k2⟩
  obtain ⟨A1, c1, rfl⟩ := orow_form o1
  obtain ⟨C1, d1, rfl⟩ := orow_form o2
  simp only at o1 o2 one
  have p0 := p0.below k2 p0.lt
  have p1 := p1.below k2 p1.lt
  have k0 := hthen k0 k2
  have y0 := p0.cell 0
  have y1 := p0.cell 1
  have y2 := p0.cell 2
  have f0 := p0.frozen 0
  have f1 := p0.frozen 1
  have f2 := p0.frozen 2
  simp at y0 y1 y2
  clear hk0 hv0
  go_wp2_with fail
  obtain ⟨w3, hw3⟩ : ∃ x, ((w2.setCell ⟨G, 0, none⟩ (.bool leaf)).setCell ⟨G, 1, none⟩ (.slice A1 ks.length c1)).setCell ⟨G, 2, none⟩ (.slice C1 vs.length d1) = x := ⟨_, rfl⟩
  have n1 : (Value.slice A1 ks.length c1).ownBlock ≠ some G := row_ne o1 p0 (by decide)
  have n2 : (Value.slice C1 vs.length d1).ownBlock ≠ some G := row_ne o2 p0 (by decide)
  have x0 : Blk w3 G 30 #[.bool leaf, .slice A1 ks.length c1, .slice C1 vs.length d1] := by
    have := ((p0.set_ 0 (.bool leaf)).set_ 1 (.slice A1 ks.length c1)).set_ 2 (.slice C1 vs.length d1)
    rw [← hw3]
    simpa using this
  have x1 : Blk w3 (G + 1) 30 #[.bool false, .slice none 0 0, .slice none 0 0] := by
    rw [← hw3]
    exact ((p1.far (p := ⟨G, 0, none⟩) (by simp) _).far (p := ⟨G, 1, none⟩) (by simp) _).far (p := ⟨G, 2, none⟩) (by simp) _
  have o1 := row_set (i := 2) (row_set (i := 1) (row_set (i := 0) o1 n1 (.bool leaf)) n1 (.slice A1 ks.length c1)) n1 (.slice C1 vs.length d1)
  have o2 := row_set (i := 2) (row_set (i := 1) (row_set (i := 0) o2 n2 (.bool leaf)) n2 (.slice A1 ks.length c1)) n2 (.slice C1 vs.length d1)
  have k3 : Below w.heap.size w w3 := by
    rw [← hw3]
    exact below_at (below_at (below_at k0 (Nat.le_of_eq hG) _ _) (Nat.le_of_eq hG) _ _) (Nat.le_of_eq hG) _ _
  have s12 : w.heap.size ≤ w1.heap.size := k1s
  rw [hw3] at o1 o2 ⊢
  have o1 := row_base o1 s12
  have o2 := row_base o2 s12
  have y0 := x0.cell 0
  have y1 := x0.cell 1
  have y2 := x0.cell 2
  have f0 := x0.frozen 0
  have f1 := x0.frozen 1
  have f2 := x0.frozen 2
  simp at y0 y1 y2
  clear hw3 p0 p1 k0
  refine (bs_to HT.out _ HP.out (by omega) w3 (ss_row o1)).mono ?_
  rintro e w3 ⟨rfl, rfl⟩
  have hpl := (at_spec HT.out).1
  have hpv : p < vs.length := by rw [HL2.out]; exact hpl
  have hk6 : ks.length ≤ 1000000 := by omega
  have hv6 : vs.length ≤ 1000000 := by rw [HL2.out]; omega
  have e1 : IntKind.i64.wrap ((p : Int) + 1) = (p + 1 : Nat) := by rw [IntWalk.i64_in _ ⟨by omega, by omega⟩]; rfl
  have sz := k3.size
  have bel := k3.drew
  have E1 := Lib.hid e1
  clear e1
  go_wp2_with fail
  have x0 := x0.drew
  have x1 := x1.drew
  have o1 := row_below o1 (Below.refl _ _).drew
  have o2 := row_below o2 (Below.refl _ _).drew
  clear y0 y1 y2 f0 f1 f2 k3
  refine wp_region_noPanic ?_
  refine wp_region_x (S := (fun w' => w'.cell? ⟨G, 1, none⟩ = some (.slice A1 ks.length c1) ∧ w'.cell? ⟨G, 2, none⟩ = some (.slice C1 vs.length d1))) 13 (by kernel_rfl) ?hS0 (fun hHeld => ?_)
  case hS0 => (have h1 := x0.cell 1; have h2 := x0.cell 2; simp at h1 h2; exact ⟨h1, h2⟩)
  generalize hZ : w3.drew = Z at *
  have sz : w.heap.size ≤ Z.heap.size := by rw [← hZ]; exact sz
  clear hZ
  have ng1 := row_ne o1 x1 (by decide)
  have ng2 := row_ne o2 x1 (by decide)
  refine wpAnyX_free (i := 0) (v := ?_) rfl (by kernel_rfl) (by kernel_rfl) (by kernel_rfl) (by kernel_rfl) (fun _ _ _ h => h) (Or.inl ⟨by kernel_rfl, ?_⟩) (.inr hHeld) ?_
  rotate_left
  · (intro w _; go_simp; try with_reducible rfl)
  try simp only [Act.put, List.getElem_toArray, List.getElem_cons_succ, List.getElem_cons_zero, List.setIfInBounds_toArray, List.set_cons_zero, List.set_cons_succ]
  refine wpAnyX_free (i := 2) (v := ?_) rfl (by kernel_rfl) (by kernel_rfl) (by kernel_rfl) (by kernel_rfl) (fun _ _ _ h => h) (Or.inl ⟨by kernel_rfl, ?_⟩) (.inr hHeld) ?_
  rotate_left
  · (intro w _; go_simp; try with_reducible rfl)
  try simp only [Act.put, List.getElem_toArray, List.getElem_cons_succ, List.getElem_cons_zero, List.setIfInBounds_toArray, List.set_cons_zero, List.set_cons_succ]
  refine wpAnyX_free (i := 3) (v := ?_) rfl (by kernel_rfl) (by kernel_rfl) (by kernel_rfl) (by kernel_rfl) (fun _ _ _ h => h) (Or.inl ⟨by kernel_rfl, ?_⟩) (.inr hHeld) ?_
  rotate_left
  · (intro w _; go_simp; try with_reducible rfl)
  try simp only [Act.put, List.getElem_toArray, List.getElem_cons_succ, List.getElem_cons_zero, List.setIfInBounds_toArray, List.set_cons_zero, List.set_cons_succ]
  refine wpAnyX_free (i := 6) (v := ?_) rfl (by kernel_rfl) (by kernel_rfl) (by kernel_rfl) (by kernel_rfl) (fun _ _ _ h => h) (Or.inl ⟨by kernel_rfl, ?_⟩) (.inr hHeld) ?_
  rotate_left
  · (intro w _; go_simp; try with_reducible rfl)
  try simp only [Act.put, List.getElem_toArray, List.getElem_cons_succ, List.getElem_cons_zero, List.setIfInBounds_toArray, List.set_cons_zero, List.set_cons_succ]
  refine wpAnyX_free (i := 8) (v := ?_) rfl (by kernel_rfl) (by kernel_rfl) (by kernel_rfl) (by kernel_rfl) (fun _ _ _ h => h) (Or.inl ⟨by kernel_rfl, ?_⟩) (.inr hHeld) ?_
  rotate_left
  · (intro w _; go_simp; try with_reducible rfl)
  try simp only [Act.put, List.getElem_toArray, List.getElem_cons_succ, List.getElem_cons_zero, List.setIfInBounds_toArray, List.set_cons_zero, List.set_cons_succ]
  refine wpAnyX_free (i := 9) (v := ?_) rfl (by kernel_rfl) (by kernel_rfl) (by kernel_rfl) (by kernel_rfl) (fun _ _ _ h => h) (Or.inl ⟨by kernel_rfl, ?_⟩) (.inr hHeld) ?_
  rotate_left
  · (intro w _; go_simp; try with_reducible rfl)
  try simp only [Act.put, List.getElem_toArray, List.getElem_cons_succ, List.getElem_cons_zero, List.setIfInBounds_toArray, List.set_cons_zero, List.set_cons_succ]
  refine wpAnyX_take (i := 1) (v := ?_) rfl (by kernel_rfl) (by kernel_rfl) (by kernel_rfl) (by kernel_rfl) (by kernel_rfl) (fun _ _ _ h => h) (Or.inl ⟨by kernel_rfl, ?_⟩) hHeld ?_
  rotate_left
  · (intro w hSw; (try dsimp only at hSw); go_simp; try with_reducible rfl)
  try simp only [Act.put, List.getElem_toArray, List.getElem_cons_succ, List.getElem_cons_zero, List.setIfInBounds_toArray, List.set_cons_zero, List.set_cons_succ]
  refine wpAnyX_take (i := 7) (v := ?_) rfl (by kernel_rfl) (by kernel_rfl) (by kernel_rfl) (by kernel_rfl) (by kernel_rfl) (fun _ _ _ h => h) (Or.inl ⟨by kernel_rfl, ?_⟩) hHeld ?_
  rotate_left
  · (intro w hSw; (try dsimp only at hSw); go_simp; try with_reducible rfl)
  try simp only [Act.put, List.getElem_toArray, List.getElem_cons_succ, List.getElem_cons_zero, List.setIfInBounds_toArray, List.set_cons_zero, List.set_cons_succ]
  have e1 := E1.out
  refine wpAnyX_free (i := 4) (v := ?_) rfl (by kernel_rfl) (by kernel_rfl) (by kernel_rfl) (by kernel_rfl) (fun _ _ _ h => h) (Or.inl ⟨by kernel_rfl, ?_⟩) (.inr hHeld) ?_
  rotate_left
  · (intro w _; go_simp; try with_reducible rfl)
  try simp only [Act.put, List.getElem_toArray, List.getElem_cons_succ, List.getElem_cons_zero, List.setIfInBounds_toArray, List.set_cons_zero, List.set_cons_succ]
  refine wpAnyX_free (i := 10) (v := ?_) rfl (by kernel_rfl) (by kernel_rfl) (by kernel_rfl) (by kernel_rfl) (fun _ _ _ h => h) (Or.inl ⟨by kernel_rfl, ?_⟩) (.inr hHeld) ?_
  rotate_left
  · (intro w _; go_simp; try with_reducible rfl)
  try simp only [Act.put, List.getElem_toArray, List.getElem_cons_succ, List.getElem_cons_zero, List.setIfInBounds_toArray, List.set_cons_zero, List.set_cons_succ]
  clear e1
  refine wpAnyX_ready (rs := [5]) (by kernel_rfl) (by simp) ?_
  refine (AllReadyX.cons rfl (fun K hK => ?_) AllReadyX.nil)
  go_simp
  go_at_call 55
  refine (delete_any w.heap.size (Value.slice A1 ks.length c1) ks ks.length p hpl hk6 Z o1).mono ?_
  rintro e X1 ⟨u1, rfl, r1, m1, kk⟩
  obtain ⟨A2, c2, rfl⟩ := orow_form r1
  have dd1 : ∀ k, (Value.slice A2 (ks.length - 1) c2).ownBlock = some k → (Value.slice C1 vs.length d1).ownBlock ≠ some k := fun k e e2 => one k (m1 ▸ e) e2
  have o2 := row_keep o2 kk (fun k e => ⟨(o2.lt k e).2, fun e1 => one k e1 e⟩)
  have x0 := x0.keep kk x0.lt n1
  have x1 := x1.keep kk x1.lt ng1
  have bel := below_keep bel kk sz (fun j e => (o1.lt j e).1)
  have sz := Nat.le_trans sz kk.size
  clear kk m1 o1
  try dsimp only
  refine hK.out _ _ (by have h1 := x0.cell 1; have h2 := x0.cell 2; simp at h1 h2; exact ⟨h1, h2⟩) (fun hHeld => ?_)
  clear hK K
  try simp only [Act.put, List.getElem_toArray, List.getElem_cons_succ, List.getElem_cons_zero, List.setIfInBounds_toArray, List.set_cons_zero, List.set_cons_succ]
  refine wpAnyX_free (i := 12) (v := ?_) rfl (by kernel_rfl) (by kernel_rfl) (by kernel_rfl) (by kernel_rfl) (fun _ _ _ h => h) (Or.inl ⟨by kernel_rfl, ?_⟩) (.inr hHeld) ?_
  rotate_left
  · (intro w _; go_simp; try with_reducible rfl)
  try simp only [Act.put, List.getElem_toArray, List.getElem_cons_succ, List.getElem_cons_zero, List.setIfInBounds_toArray, List.set_cons_zero, List.set_cons_succ]
  refine wpAnyX_ready (rs := [11]) (by kernel_rfl) (by simp) ?_
  refine (AllReadyX.cons rfl (fun K hK => ?_) AllReadyX.nil)
  go_simp
  go_at_call 55
  refine (delete_any w.heap.size (Value.slice C1 vs.length d1) vs vs.length p hpv hv6 X1 o2).mono ?_
  rintro e X4 ⟨u2, rfl, r2, m2, kk⟩
  obtain ⟨A3, c3, rfl⟩ := orow_form r2
  have r1 := row_keep r1 kk (fun k e => ⟨(r1.lt k e).2, fun e1 => dd1 k e e1⟩)
  have x0 := x0.keep kk x0.lt n2
  have x1 := x1.keep kk x1.lt ng2
  have bel := below_keep bel kk sz (fun j e => (o2.lt j e).1)
  have y1 := x0.cell 1
  have y2 := x0.cell 2
  have f1 := x0.frozen 1
  have f2 := x0.frozen 2
  simp at y1 y2
  clear kk m2 o2 dd1
  try dsimp only
  refine hK.out _ _ (by have h1 := x0.cell 1; have h2 := x0.cell 2; simp at h1 h2; exact ⟨h1, h2⟩) (fun hHeld => ?_)
  clear hK K
  try simp only [Act.put, List.getElem_toArray, List.getElem_cons_succ, List.getElem_cons_zero, List.setIfInBounds_toArray, List.set_cons_zero, List.set_cons_succ]
  refine wpAnyX_ready (rs := [13]) (by kernel_rfl) (by simp) ?_
  refine (AllReadyX.late rfl (by kernel_rfl) (fun K hK => ?_) AllReadyX.nil)
  go_simp
  try dsimp only
  refine hK.out _ _ ?_
  clear hK K
  try simp only [Act.put, List.getElem_toArray, List.getElem_cons_succ, List.getElem_cons_zero, List.setIfInBounds_toArray, List.set_cons_zero, List.set_cons_succ]
  refine wpAnyX_free (i := 14) (v := ?_) rfl (by kernel_rfl) (by kernel_rfl) (by kernel_rfl) (by kernel_rfl) (fun _ _ _ h => h) (Or.inl ⟨by kernel_rfl, ?_⟩) (.inl (by kernel_rfl)) ?_
  rotate_left
  · (intro w _; go_simp; try with_reducible rfl)
  try simp only [Act.put, List.getElem_toArray, List.getElem_cons_succ, List.getElem_cons_zero, List.setIfInBounds_toArray, List.set_cons_zero, List.set_cons_succ]
  refine wpAnyX_ready (rs := [15]) (by kernel_rfl) (by simp) ?_
  refine (AllReadyX.late rfl (by kernel_rfl) (fun K hK => ?_) AllReadyX.nil)
  go_simp
  try dsimp only
  refine hK.out _ _ ?_
  clear hK K
  try simp only [Act.put, List.getElem_toArray, List.getElem_cons_succ, List.getElem_cons_zero, List.setIfInBounds_toArray, List.set_cons_zero, List.set_cons_succ]
  refine wpAnyX_done (by kernel_rfl) ?_ _
  refine NoPanic.normal ?_
  have m1 := row_ne r1 x0 (by decide)
  have m2 := row_ne r2 x0 (by decide)
  have l1 := row_ne r1 x1 (by decide)
  have l2 := row_ne r2 x1 (by decide)
  obtain ⟨Y, hY⟩ : ∃ y, (X4.setCell ⟨G, 1, none⟩ (.slice A2 (ks.length - 1) c2)).setCell ⟨G, 2, none⟩ (.slice A3 (vs.length - 1) c3) = y := ⟨_, rfl⟩
  have x0 : Blk Y G 30 #[.bool leaf, .slice A2 (ks.length - 1) c2, .slice A3 (vs.length - 1) c3] := by
    have := (x0.set_ 1 (.slice A2 (ks.length - 1) c2)).set_ 2 (.slice A3 (vs.length - 1) c3)
    rw [← hY]
    simpa using this
  have x1 : Blk Y (G + 1) 30 #[.bool false, .slice none 0 0, .slice none 0 0] := by
    rw [← hY]
    exact (x1.far (p := ⟨G, 1, none⟩) (by simp) _).far (p := ⟨G, 2, none⟩) (by simp) _
  have r1 := row_set (i := 2) (row_set (i := 1) r1 m1 (.slice A2 (ks.length - 1) c2)) m1 (.slice A3 (vs.length - 1) c3)
  have r2 := row_set (i := 2) (row_set (i := 1) r2 m2 (.slice A2 (ks.length - 1) c2)) m2 (.slice A3 (vs.length - 1) c3)
  have bel : Below w.heap.size w Y := by
    rw [← hY]
    exact below_at (below_at bel (Nat.le_of_eq hG) _ _) (Nat.le_of_eq hG) _ _
  rw [hY] at r1 r2 ⊢
  clear hY y1 y2 f1 f2
  have t0 := x0.cell 0
  have t1 := x0.cell 1
  have t2 := x0.cell 2
  have q0 := x1.cell 0
  have q1 := x1.cell 1
  have q2 := x1.cell 2
  have h0 := x1.frozen 0
  have h1 := x1.frozen 1
  have h2 := x1.frozen 2
  simp at t0 t1 t2 q0 q1 q2
  go_wp2
  have ss1 := row_set (i := 2) (row_set (i := 1) (row_set (i := 0) r1 l1 (.bool leaf)) l1 (.slice A2 (ks.length - 1) c2)) l1 (.slice A3 (vs.length - 1) c3)
  have ss2 := row_set (i := 2) (row_set (i := 1) (row_set (i := 0) r2 l2 (.bool leaf)) l2 (.slice A2 (ks.length - 1) c2)) l2 (.slice A3 (vs.length - 1) c3)
  have x2 : Blk (((Y.setCell ⟨G + 1, 0, none⟩ (.bool leaf)).setCell ⟨G + 1, 1, none⟩ (.slice A2 (ks.length - 1) c2)).setCell ⟨G + 1, 2, none⟩ (.slice A3 (vs.length - 1) c3)) (G + 1) 30 #[.bool leaf, .slice A2 (ks.length - 1) c2, .slice A3 (vs.length - 1) c3] := by
    have := ((x1.set_ 0 (.bool leaf)).set_ 1 (.slice A2 (ks.length - 1) c2)).set_ 2 (.slice A3 (vs.length - 1) c3)
    simpa using this
  have v0 := x2.cell 0
  have v1 := x2.cell 1
  have v2 := x2.cell 2
  simp at v0 v1 v2
  refine bodyPost_ret (v := .agg #[.bool leaf, .slice A2 (ks.length - 1) c2, .slice A3 (vs.length - 1) c3]) ?h1 rfl ?h2
  case h1 => simp [results, Try.results29, go_sem, v0, v1, v2]
  case h2 =>
    have hle : w.heap.size ≤ G + 1 := by omega
    exact ⟨_, rfl, by rw [HW.out]; exact ⟨_, _, rfl, ss_row ss1, ss_row ss2⟩, below_at (below_at (below_at bel hle _ _) hle _ _) hle _ _⟩

theorem without_any (n : Nd) (v : Value) (key : List UInt8) (w : World) (h : NdV w v n) (hk : n.keys.length ≤ 1000000) (hv : n.vals.length ≤ 1000000) :
    Calls Try.prog 29 #[v, .string (bstr key)] w fun e w' => ∃ u, e = .returned u ∧ NdV w' u (withoutN n key) ∧ Below w.heap.size w w' := by
  cases hm : mayB n
  · have e : withoutN n key = n := by unfold withoutN; rw [hm]; rfl
    rw [e]
    exact without_bad n v key w h hk hv hm
  · obtain ⟨vk, vv, rfl, h1, h2⟩ := h
    obtain ⟨leaf, ks, vs⟩ := n
    cases ha : thereN ⟨leaf, ks, vs⟩ key
    · exact without_none leaf ks vs vk vv key hm ha w ⟨_, _, rfl, h1, h2⟩
    · exact without_here leaf ks vs vk vv key hm ha w ⟨_, _, rfl, h1, h2⟩
end Go.Proofs.Ytiodeeliidhbgaa
