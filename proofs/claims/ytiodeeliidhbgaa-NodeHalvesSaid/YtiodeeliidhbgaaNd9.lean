/- With and Without of package node: contracts. -/
import Derived.Test.YtiodeeliidhbgaaNd8
import Derived.Test.YtiodeeliidhbgaaNp
import Derived.Test.YtiodeeliidhbgaaRg
namespace Go.Proofs.Ytiodeeliidhbgaa
open Go Go.RowKit
set_option linter.unusedSimpArgs false
set_option linter.unnecessarySimpa false
set_option linter.unusedVariables false

theorem bs_to {ks : List (List UInt8)} {key : List UInt8} {p : Nat} {b : Bool} (hb : isAt ks key p = b) (v : Value) (hp : Parts ks key p) (hn : ks.length ≤ 1000000) (w : World) (h : SsAt w v ks) :
    Calls Try.prog 41 #[v, .string (bstr key)] w fun e w' => e = .returned (.tuple #[.int .i64 (p : Nat), .bool b]) ∧ w' = w := hb ▸ bs_any v ks key p hp hn w h
theorem plain_to {k v : List UInt8} {b : Bool} (h : plB k v = b) (w : World) : Calls Try.prog 53 #[.string (bstr k), .string (bstr v)] w fun e w' => e = .returned (.bool b) ∧ w' = w := h ▸ plain_any k v w
theorem below_keep {B : Nat} {S : Nat → Prop} {w X X' : World} (h : Below B w X) (k : Keep X.heap.size S X X') (hB : B ≤ X.heap.size) (hS : ∀ j, S j → B ≤ j) : Below B w X' :=
  h.trans (k.mono (S' := fun _ => False) hB (fun j _ h2 => by have := hS j h2; omega)).below
/-- a text of a row is written anew -/
theorem row_put {w : World} {B g n cap p : Nat} {l : List (List UInt8)} (h : w.ownsRow B 9 1 (.slice (some ⟨g, 0, none⟩) n cap) n (secV l)) (hp : p < n) (x : List UInt8) : (w.setCell ⟨g, p, none⟩ (.string (bstr x))).ownsRow B 9 1 (.slice (some ⟨g, 0, none⟩) n cap) n (secV (l.set p x)) := by
  have hl : (secV l).length = n := by have := h.1; omega
  obtain ⟨rest, hb, h1, h2, h3, h4⟩ := blk_of_row h
  have hs := hb.set_ p (.string (bstr x))
  rw [List.setIfInBounds_toArray, List.set_append_left _ _ (by omega)] at hs
  have e : (secV l).set p (.string (bstr x)) = secV (l.set p x) := by simp [secV, List.map_set]
  rw [e] at hs
  refine row_of_blk hs h2 ?_ h3 h4 ?_
  · rw [secV_len, List.length_set, ← secV_len, hl, Nat.mul_one]
  · rw [← h1, List.length_append, List.length_append, secV_len, List.length_set, ← secV_len]
theorem row_slot {w : World} {B g n cap p : Nat} {l : List (List UInt8)} (h : w.ownsRow B 9 1 (.slice (some ⟨g, 0, none⟩) n cap) n (secV l)) (hp : p < n) : ∃ u, w.cell? ⟨g, p, none⟩ = some u ∧ w.frozen? ⟨g, p, none⟩ = false := by
  obtain ⟨rest, hb, _⟩ := blk_of_row h
  have hl : (secV l).length = n := by have := h.1; omega
  exact ⟨_, by rw [hb.cell, List.getElem?_toArray]; exact List.getElem?_eq_getElem (show p < (secV l ++ rest).length by rw [List.length_append]; omega), hb.frozen p⟩
theorem ss_row {w : World} {B n : Nat} {v : Value} {l : List (List UInt8)} (h : w.ownsRow B 9 1 v n (secV l)) : SsAt w v l := ss_own h

set_option maxRecDepth 100000 in
set_option maxHeartbeats 4000000 in
theorem with_new (leaf : Bool) (ks vs : List (List UInt8)) (vk vv : Value) (key val : List UInt8) (hm : mayB ⟨leaf, ks, vs⟩ = true) (hp : plB key val = true) (ha : thereN ⟨leaf, ks, vs⟩ key = false) (w : World) (h : NdV w (.agg #[.bool leaf, vk, vv]) ⟨leaf, ks, vs⟩) :
    Calls Try.prog 27 #[.agg #[.bool leaf, vk, vv], .string (bstr key), .string (bstr val)] w fun e w' => ∃ u, e = .returned u ∧ NdV w' u (withN ⟨leaf, ks, vs⟩ key val) ∧ Below w.heap.size w w' := by
  obtain ⟨_, _, e, h1, h2⟩ := h
  cases e
  obtain ⟨A, c, rfl⟩ := h1.form
  obtain ⟨C, d, rfl⟩ := h2.form
  simp only at h1 h2
  obtain ⟨hs1, hs2⟩ := may_small hm
  have hparts := parts_lb (ord_of_may hm) key
  have hplace : placeN ⟨leaf, ks, vs⟩ key = lbN key ks := rfl
  have hthere : isAt ks key (lbN key ks) = false := ha
  have hstep : stepN ⟨leaf, ks, vs⟩ key = 0 := by unfold stepN; rw [ha]; rfl
  have hw : withN ⟨leaf, ks, vs⟩ key val = ⟨leaf, ks.take (lbN key ks) ++ key :: ks.drop (lbN key ks), vs.take (lbN key ks) ++ val :: vs.drop (lbN key ks)⟩ := by
    unfold withN
    rw [hm, hp, hstep, hplace]
    rfl
  obtain ⟨p, hpp⟩ : ∃ p, lbN key ks = p := ⟨_, rfl⟩
  rw [hpp] at hparts hthere hw
  simp only at hs1 hs2
  have hple := hparts.le
  have HP := Lib.hid hparts
  have HT := Lib.hid hthere
  have HW := Lib.hid hw
  have HM := Lib.hid hm
  have HPL := Lib.hid hp
  clear hparts hthere hw hm hp ha hplace hstep hpp
  have p1 := Blk.new (w.alloc (.cells #[.bool leaf, .slice A ks.length c, .slice C vs.length d] 30)) 30 #[.bool false, .slice none 0 0, .slice none 0 0]
  have p0 := (Blk.new w 30 #[.bool leaf, .slice A ks.length c, .slice C vs.length d]).alloc (.cells #[.bool false, .slice none 0 0, .slice none 0 0] 30)
  have k0 : Below w.heap.size w ((w.alloc (.cells #[.bool leaf, .slice A ks.length c, .slice C vs.length d] 30)).alloc (.cells #[.bool false, .slice none 0 0, .slice none 0 0] 30)) := ((Below.refl _ _).alloc (Nat.le_refl _) _).alloc (by simp) _
  have e1 : (w.alloc (.cells #[.bool leaf, .slice A ks.length c, .slice C vs.length d] 30)).heap.size = w.heap.size + 1 := by simp
  rw [e1] at p1
  have hk0 := h1.below k0
  have hv0 := h2.below k0
  have y0 := p0.cell 0
  have y1 := p0.cell 1
  have y2 := p0.cell 2
  simp at y0 y1 y2
  have HL2 := Lib.hid hs2
  clear e1 h1 h2 hs2
  go_enter Try.func27, Try.ntmps27
  go_wp2_with fail
  obtain ⟨w0, hw0⟩ : ∃ x, (w.alloc (.cells #[.bool leaf, .slice A ks.length c, .slice C vs.length d] 30)).alloc (.cells #[.bool false, .slice none 0 0, .slice none 0 0] 30) = x := ⟨_, rfl⟩
  rw [hw0] at p0 p1 k0 hk0 hv0 ⊢
  obtain ⟨G, hG⟩ : ∃ x, w.heap.size = x := ⟨_, rfl⟩
  rw [hG] at p0 p1 ⊢
  have kG : Below G w w0 := hG ▸ k0
  clear hw0 y0 y1 y2
  refine (may_to HM.out _ w0 ⟨_, _, rfl, hk0, hv0⟩ (by show ks.length ≤ 1000000; omega) (by show vs.length ≤ 1000000; rw [HL2.out]; omega)).mono ?_
  rintro e w1 ⟨rfl, k1⟩
  have p0 := p0.below k1 p0.lt
  have p1 := p1.below k1 p1.lt
  have hk0 := hk0.below k1
  have hv0 := hv0.below k1
  have k0 := hthen k0 k1
  have k1s := k0.size
  have y0 := p0.cell 0
  have y1 := p0.cell 1
  have y2 := p0.cell 2
  simp at y0 y1 y2
  clear k1 kG
  go_wp2_with fail
  refine (plain_to HPL.out w1).mono ?_
  rintro e w1 ⟨rfl, rfl⟩
  go_wp2_with fail
  refine (copied_any _ ⟨leaf, ks, vs⟩ w1 ⟨_, _, rfl, hk0, hv0⟩ (by show ks.length ≤ 1000000; omega) (by show vs.length ≤ 1000000; rw [HL2.out]; omega)).mono ?_
  rintro e w2 ⟨_, rfl, ⟨uk, uv, rfl, o1, o2, one⟩, k2⟩
  obtain ⟨A1, c1, rfl⟩ := orow_form o1
  obtain ⟨C1, d1, rfl⟩ := orow_form o2
  simp only at o1 o2 one
  have p0 := p0.below k2 p0.lt
  have p1 := p1.below k2 p1.lt
  have k0 := hthen k0 k2
  have y0 := p0.cell 0
  have y1 := p0.cell 1
  have y2 := p0.cell 2
  have f0 := p0.frozen 0
  have f1 := p0.frozen 1
  have f2 := p0.frozen 2
  simp at y0 y1 y2
  clear hk0 hv0
  go_wp2_with fail
  obtain ⟨w3, hw3⟩ : ∃ x, ((w2.setCell ⟨G, 0, none⟩ (.bool leaf)).setCell ⟨G, 1, none⟩ (.slice A1 ks.length c1)).setCell ⟨G, 2, none⟩ (.slice C1 vs.length d1) = x := ⟨_, rfl⟩
  have n1 : (Value.slice A1 ks.length c1).ownBlock ≠ some G := row_ne o1 p0 (by decide)
  have n2 : (Value.slice C1 vs.length d1).ownBlock ≠ some G := row_ne o2 p0 (by decide)
  have x0 : Blk w3 G 30 #[.bool leaf, .slice A1 ks.length c1, .slice C1 vs.length d1] := by
    have := ((p0.set_ 0 (.bool leaf)).set_ 1 (.slice A1 ks.length c1)).set_ 2 (.slice C1 vs.length d1)
    rw [← hw3]
    simpa using this
  have x1 : Blk w3 (G + 1) 30 #[.bool false, .slice none 0 0, .slice none 0 0] := by
    rw [← hw3]
    exact ((p1.far (p := ⟨G, 0, none⟩) (by simp) _).far (p := ⟨G, 1, none⟩) (by simp) _).far (p := ⟨G, 2, none⟩) (by simp) _
  have o1 := row_set (i := 2) (row_set (i := 1) (row_set (i := 0) o1 n1 (.bool leaf)) n1 (.slice A1 ks.length c1)) n1 (.slice C1 vs.length d1)
  have o2 := row_set (i := 2) (row_set (i := 1) (row_set (i := 0) o2 n2 (.bool leaf)) n2 (.slice A1 ks.length c1)) n2 (.slice C1 vs.length d1)
  have k3 : Below w.heap.size w w3 := by
    rw [← hw3]
    exact below_at (below_at (below_at k0 (Nat.le_of_eq hG) _ _) (Nat.le_of_eq hG) _ _) (Nat.le_of_eq hG) _ _
  have s12 : w.heap.size ≤ w1.heap.size := k1s
  rw [hw3] at o1 o2 ⊢
  have o1 := row_base o1 s12
  have o2 := row_base o2 s12
  have y0 := x0.cell 0
  have y1 := x0.cell 1
  have y2 := x0.cell 2
  have f0 := x0.frozen 0
  have f1 := x0.frozen 1
  have f2 := x0.frozen 2
  simp at y0 y1 y2
  clear hw3 p0 p1 k0
  refine (bs_to HT.out _ HP.out (by omega) w3 (ss_row o1)).mono ?_
  rintro e w3 ⟨rfl, rfl⟩
  go_wp2_with fail
  have hk6 : ks.length ≤ 1000000 := by omega
  have hv6 : vs.length ≤ 1000000 := by rw [HL2.out]; omega
  have hpv : p ≤ vs.length := by rw [HL2.out]; exact hple
  have sz := k3.size
  have bel := k3.drew
  have x0 := x0.drew
  have x1 := x1.drew
  have o1 := row_below o1 (Below.refl _ _).drew
  have o2 := row_below o2 (Below.refl _ _).drew
  clear y0 y1 y2 f0 f1 f2 k3
  refine wp_region_noPanic ?_
  refine wp_region_x (S := (fun w' => w'.cell? ⟨G, 1, none⟩ = some (.slice A1 ks.length c1) ∧ w'.cell? ⟨G, 2, none⟩ = some (.slice C1 vs.length d1))) 12 (by kernel_rfl) ?hS0 (fun hHeld => ?_)
  case hS0 => (have h1 := x0.cell 1; have h2 := x0.cell 2; simp at h1 h2; exact ⟨h1, h2⟩)
  generalize hZ : w3.drew = Z at *
  have sz : w.heap.size ≤ Z.heap.size := by rw [← hZ]; exact sz
  clear hZ
  have ng1 := row_ne o1 x1 (by decide)
  have ng2 := row_ne o2 x1 (by decide)
  refine wpAnyX_free (i := 0) (v := ?_) rfl (by kernel_rfl) (by kernel_rfl) (by kernel_rfl) (by kernel_rfl) (fun _ _ _ h => h) (Or.inl ⟨by kernel_rfl, ?_⟩) (.inr hHeld) ?_
  rotate_left
  · (intro w _; go_simp; try with_reducible rfl)
  try simp only [Act.put, List.getElem_toArray, List.getElem_cons_succ, List.getElem_cons_zero, List.setIfInBounds_toArray, List.set_cons_zero, List.set_cons_succ]
  refine wpAnyX_free (i := 2) (v := ?_) rfl (by kernel_rfl) (by kernel_rfl) (by kernel_rfl) (by kernel_rfl) (fun _ _ _ h => h) (Or.inl ⟨by kernel_rfl, ?_⟩) (.inr hHeld) ?_
  rotate_left
  · (intro w _; go_simp; try with_reducible rfl)
  try simp only [Act.put, List.getElem_toArray, List.getElem_cons_succ, List.getElem_cons_zero, List.setIfInBounds_toArray, List.set_cons_zero, List.set_cons_succ]
  refine wpAnyX_free (i := 3) (v := ?_) rfl (by kernel_rfl) (by kernel_rfl) (by kernel_rfl) (by kernel_rfl) (fun _ _ _ h => h) (Or.inl ⟨by kernel_rfl, ?_⟩) (.inr hHeld) ?_
  rotate_left
  · (intro w _; go_simp; try with_reducible rfl)
  try simp only [Act.put, List.getElem_toArray, List.getElem_cons_succ, List.getElem_cons_zero, List.setIfInBounds_toArray, List.set_cons_zero, List.set_cons_succ]
  refine wpAnyX_free (i := 6) (v := ?_) rfl (by kernel_rfl) (by kernel_rfl) (by kernel_rfl) (by kernel_rfl) (fun _ _ _ h => h) (Or.inl ⟨by kernel_rfl, ?_⟩) (.inr hHeld) ?_
  rotate_left
  · (intro w _; go_simp; try with_reducible rfl)
  try simp only [Act.put, List.getElem_toArray, List.getElem_cons_succ, List.getElem_cons_zero, List.setIfInBounds_toArray, List.set_cons_zero, List.set_cons_succ]
  refine wpAnyX_free (i := 8) (v := ?_) rfl (by kernel_rfl) (by kernel_rfl) (by kernel_rfl) (by kernel_rfl) (fun _ _ _ h => h) (Or.inl ⟨by kernel_rfl, ?_⟩) (.inr hHeld) ?_
  rotate_left
  · (intro w _; go_simp; try with_reducible rfl)
  try simp only [Act.put, List.getElem_toArray, List.getElem_cons_succ, List.getElem_cons_zero, List.setIfInBounds_toArray, List.set_cons_zero, List.set_cons_succ]
  refine wpAnyX_take (i := 1) (v := ?_) rfl (by kernel_rfl) (by kernel_rfl) (by kernel_rfl) (by kernel_rfl) (by kernel_rfl) (fun _ _ _ h => h) (Or.inl ⟨by kernel_rfl, ?_⟩) hHeld ?_
  rotate_left
  · (intro w hSw; (try dsimp only at hSw); go_simp; try with_reducible rfl)
  try simp only [Act.put, List.getElem_toArray, List.getElem_cons_succ, List.getElem_cons_zero, List.setIfInBounds_toArray, List.set_cons_zero, List.set_cons_succ]
  refine wpAnyX_take (i := 7) (v := ?_) rfl (by kernel_rfl) (by kernel_rfl) (by kernel_rfl) (by kernel_rfl) (by kernel_rfl) (fun _ _ _ h => h) (Or.inl ⟨by kernel_rfl, ?_⟩) hHeld ?_
  rotate_left
  · (intro w hSw; (try dsimp only at hSw); go_simp; try with_reducible rfl)
  try simp only [Act.put, List.getElem_toArray, List.getElem_cons_succ, List.getElem_cons_zero, List.setIfInBounds_toArray, List.set_cons_zero, List.set_cons_succ]
  refine wpAnyX_ready (rs := [4, 9]) (by kernel_rfl) (by simp) ?_
  refine (AllReadyX.cons rfl (fun K hK => ?_) (AllReadyX.cons rfl (fun K hK => ?_) AllReadyX.nil))
  · go_simp
    obtain ⟨X1, hX⟩ : ∃ x, Z.alloc (.cells #[.string (bstr key)] 9) = x := ⟨_, rfl⟩
    have aa : Below Z.heap.size Z X1 := by rw [← hX]; exact (Below.refl _ _).alloc (Nat.le_refl _) _
    obtain ⟨ivk, hivk⟩ : ∃ i, Z.heap.size = i := ⟨_, rfl⟩
    have vk : Blk X1 ivk 9 #[.string (bstr key)] := by rw [← hX, ← hivk]; exact Blk.new _ _ _
    have n1vk : (Value.slice A1 ks.length c1).ownBlock ≠ some ivk := fun e => by have := (o1.lt _ e).2; omega
    have n2vk : (Value.slice C1 vs.length d1).ownBlock ≠ some ivk := fun e => by have := (o2.lt _ e).2; omega
    rw [hX, hivk]
    have x0 := x0.below aa x0.lt
    have x1 := x1.below aa x1.lt
    have o2 := row_below o2 aa
    have o1 := row_below o1 aa
    have bel := hthen bel aa
    have sz := Nat.le_trans sz aa.size
    clear hX aa hivk
    try dsimp only
    refine hK.out _ _ (by have h1 := x0.cell 1; have h2 := x0.cell 2; simp at h1 h2; exact ⟨h1, h2⟩) (fun hHeld => ?_)
    clear hK K
    try simp only [Act.put, List.getElem_toArray, List.getElem_cons_succ, List.getElem_cons_zero, List.setIfInBounds_toArray, List.set_cons_zero, List.set_cons_succ]
    refine wpAnyX_ready (rs := [5, 9]) (by kernel_rfl) (by simp) ?_
    refine (AllReadyX.cons rfl (fun K hK => ?_) (AllReadyX.cons rfl (fun K hK => ?_) AllReadyX.nil))
    · go_simp
      go_at_call 54
      refine (insert_any w.heap.size (Value.slice A1 ks.length c1) ks ks.length p key _ hple hk6 X1 o1 vk n1vk sz).mono ?_
      rintro e X2 ⟨u1, rfl, r1, m1, kk⟩
      obtain ⟨A2, c2, rfl⟩ := orow_form r1
      have dd1 : ∀ k, (Value.slice A2 (ks.length + 1) c2).ownBlock = some k → (Value.slice C1 vs.length d1).ownBlock ≠ some k := fun k e e2 => (m1 k e).elim (fun e3 => one k e3 e2) (fun e3 => by have := (o2.lt k e2).2; omega)
      have o2 := row_keep o2 kk (fun k e => ⟨(o2.lt k e).2, fun e1 => one k e1 e⟩)
      have x0 := x0.keep kk x0.lt n1
      have x1 := x1.keep kk x1.lt ng1
      have bel := below_keep bel kk sz (fun j e => (o1.lt j e).1)
      have sz := Nat.le_trans sz kk.size
      clear kk m1 o1
      try dsimp only
      refine hK.out _ _ (by have h1 := x0.cell 1; have h2 := x0.cell 2; simp at h1 h2; exact ⟨h1, h2⟩) (fun hHeld => ?_)
      clear hK K
      try simp only [Act.put, List.getElem_toArray, List.getElem_cons_succ, List.getElem_cons_zero, List.setIfInBounds_toArray, List.set_cons_zero, List.set_cons_succ]
      refine wpAnyX_free (i := 11) (v := ?_) rfl (by kernel_rfl) (by kernel_rfl) (by kernel_rfl) (by kernel_rfl) (fun _ _ _ h => h) (Or.inl ⟨by kernel_rfl, ?_⟩) (.inr hHeld) ?_
      rotate_left
      · (intro w _; go_simp; try with_reducible rfl)
      try simp only [Act.put, List.getElem_toArray, List.getElem_cons_succ, List.getElem_cons_zero, List.setIfInBounds_toArray, List.set_cons_zero, List.set_cons_succ]
      refine wpAnyX_ready (rs := [9]) (by kernel_rfl) (by simp) ?_
      refine (AllReadyX.cons rfl (fun K hK => ?_) AllReadyX.nil)
      go_simp
      obtain ⟨X3, hX⟩ : ∃ x, X2.alloc (.cells #[.string ⟨#[]⟩] 9) = x := ⟨_, rfl⟩
      have aa : Below X2.heap.size X2 X3 := by rw [← hX]; exact (Below.refl _ _).alloc (Nat.le_refl _) _
      obtain ⟨ive, hive⟩ : ∃ i, X2.heap.size = i := ⟨_, rfl⟩
      have ve : Blk X3 ive 9 #[.string ⟨#[]⟩] := by rw [← hX, ← hive]; exact Blk.new _ _ _
      have n2ve : (Value.slice C1 vs.length d1).ownBlock ≠ some ive := fun e => by have := (o2.lt _ e).2; omega
      rw [hX, hive]
      have x0 := x0.below aa x0.lt
      have x1 := x1.below aa x1.lt
      have o2 := row_below o2 aa
      have r1 := row_below r1 aa
      have bel := hthen bel aa
      have sz := Nat.le_trans sz aa.size
      clear hX aa hive
      try dsimp only
      refine hK.out _ _ (by have h1 := x0.cell 1; have h2 := x0.cell 2; simp at h1 h2; exact ⟨h1, h2⟩) (fun hHeld => ?_)
      clear hK K
      try simp only [Act.put, List.getElem_toArray, List.getElem_cons_succ, List.getElem_cons_zero, List.setIfInBounds_toArray, List.set_cons_zero, List.set_cons_succ]
      refine wpAnyX_ready (rs := [10]) (by kernel_rfl) (by simp) ?_
      refine (AllReadyX.cons rfl (fun K hK => ?_) AllReadyX.nil)
      go_simp
      go_at_call 54
      refine (insert_any w.heap.size (Value.slice C1 vs.length d1) vs vs.length p [] _ hpv hv6 X3 o2 ve n2ve sz).mono ?_
      rintro e X4 ⟨u2, rfl, r2, m2, kk⟩
      obtain ⟨A3, c3, rfl⟩ := orow_form r2
      have dd2 : ∀ k, (Value.slice A2 (ks.length + 1) c2).ownBlock = some k → (Value.slice A3 (vs.length + 1) c3).ownBlock ≠ some k := fun k e e2 => (m2 k e2).elim (fun e3 => dd1 k e e3) (fun e3 => by have := (r1.lt k e).2; omega)
      have r1 := row_keep r1 kk (fun k e => ⟨(r1.lt k e).2, fun e1 => dd1 k e e1⟩)
      have x0 := x0.keep kk x0.lt n2
      have x1 := x1.keep kk x1.lt ng2
      have bel := below_keep bel kk sz (fun j e => (o2.lt j e).1)
      have sz := Nat.le_trans sz kk.size
      have y1 := x0.cell 1
      have y2 := x0.cell 2
      have f1 := x0.frozen 1
      have f2 := x0.frozen 2
      simp at y1 y2
      clear kk m2 o2 dd1
      try dsimp only
      refine hK.out _ _ (by have h1 := x0.cell 1; have h2 := x0.cell 2; simp at h1 h2; exact ⟨h1, h2⟩) (fun hHeld => ?_)
      clear hK K
      try simp only [Act.put, List.getElem_toArray, List.getElem_cons_succ, List.getElem_cons_zero, List.setIfInBounds_toArray, List.set_cons_zero, List.set_cons_succ]
      refine wpAnyX_ready (rs := [12]) (by kernel_rfl) (by simp) ?_
      refine (AllReadyX.late rfl (by kernel_rfl) (fun K hK => ?_) AllReadyX.nil)
      go_simp
      try dsimp only
      refine hK.out _ _ ?_
      clear hK K
      try simp only [Act.put, List.getElem_toArray, List.getElem_cons_succ, List.getElem_cons_zero, List.setIfInBounds_toArray, List.set_cons_zero, List.set_cons_succ]
      refine wpAnyX_free (i := 13) (v := ?_) rfl (by kernel_rfl) (by kernel_rfl) (by kernel_rfl) (by kernel_rfl) (fun _ _ _ h => h) (Or.inl ⟨by kernel_rfl, ?_⟩) (.inl (by kernel_rfl)) ?_
      rotate_left
      · (intro w _; go_simp; try with_reducible rfl)
      try simp only [Act.put, List.getElem_toArray, List.getElem_cons_succ, List.getElem_cons_zero, List.setIfInBounds_toArray, List.set_cons_zero, List.set_cons_succ]
      refine wpAnyX_ready (rs := [14]) (by kernel_rfl) (by simp) ?_
      refine (AllReadyX.late rfl (by kernel_rfl) (fun K hK => ?_) AllReadyX.nil)
      go_simp
      try dsimp only
      refine hK.out _ _ ?_
      clear hK K
      try simp only [Act.put, List.getElem_toArray, List.getElem_cons_succ, List.getElem_cons_zero, List.setIfInBounds_toArray, List.set_cons_zero, List.set_cons_succ]
      refine wpAnyX_done (by kernel_rfl) ?_ _
      refine NoPanic.normal ?_
      obtain ⟨g3, c4, e3⟩ := orow_pos r2 (by omega)
      cases e3
      have m1 := row_ne r1 x0 (by decide)
      have m2 := row_ne r2 x0 (by decide)
      have l1 := row_ne r1 x1 (by decide)
      have l2 := row_ne r2 x1 (by decide)
      obtain ⟨Y, hY⟩ : ∃ y, (X4.setCell ⟨G, 1, none⟩ (.slice A2 (ks.length + 1) c2)).setCell ⟨G, 2, none⟩ (.slice (some ⟨g3, 0, none⟩) (vs.length + 1) c3) = y := ⟨_, rfl⟩
      have x0' : Blk Y G 30 #[.bool leaf, .slice A2 (ks.length + 1) c2, .slice (some ⟨g3, 0, none⟩) (vs.length + 1) c3] := by
        have := (x0.set_ 1 (.slice A2 (ks.length + 1) c2)).set_ 2 (.slice (some ⟨g3, 0, none⟩) (vs.length + 1) c3)
        rw [← hY]
        simpa using this
      have x1 : Blk Y (G + 1) 30 #[.bool false, .slice none 0 0, .slice none 0 0] := by
        rw [← hY]
        exact (x1.far (p := ⟨G, 1, none⟩) (by simp) _).far (p := ⟨G, 2, none⟩) (by simp) _
      have r1 := row_set (i := 2) (row_set (i := 1) r1 m1 (.slice A2 (ks.length + 1) c2)) m1 (.slice (some ⟨g3, 0, none⟩) (vs.length + 1) c3)
      have r2 := row_set (i := 2) (row_set (i := 1) r2 m2 (.slice A2 (ks.length + 1) c2)) m2 (.slice (some ⟨g3, 0, none⟩) (vs.length + 1) c3)
      have bel : Below w.heap.size w Y := by
        rw [← hY]
        exact below_at (below_at bel (Nat.le_of_eq hG) _ _) (Nat.le_of_eq hG) _ _
      rw [hY] at r1 r2 ⊢
      clear hY x0 y1 y2 f1 f2
      have hg3 : w.heap.size ≤ g3 := (r2.lt g3 rfl).1
      have hne0 : g3 ≠ G := fun e => m2 (by rw [e]; rfl)
      have hne1 : g3 ≠ G + 1 := fun e => l2 (by rw [e]; rfl)
      obtain ⟨z, hz, hfz⟩ := row_slot r2 (show p < vs.length + 1 by omega)
      have r2' := row_put r2 (show p < vs.length + 1 by omega) val
      have r1' := row_set (i := p) r1 (fun e => dd2 _ e rfl) (.string (bstr val))
      have t0' := x0'.far (p := ⟨g3, p, none⟩) (fun e => hne0 e.symm) (.string (bstr val))
      have t1' := x1.far (p := ⟨g3, p, none⟩) (fun e => hne1 e.symm) (.string (bstr val))
      have bel' := below_at bel hg3 p (.string (bstr val))
      have hset : (vs.take p ++ [] :: vs.drop p).set p val = vs.take p ++ val :: vs.drop p := by
        have hpl : (vs.take p).length = p := by rw [List.length_take]; omega
        rw [List.set_append_right _ _ (by omega), hpl, Nat.sub_self]
        rfl
      rw [hset] at r2'
      obtain ⟨W, hW⟩ : ∃ y, Y.setCell ⟨g3, p, none⟩ (.string (bstr val)) = y := ⟨_, rfl⟩
      rw [hW] at r1' r2' t0' t1' bel'
      have y2 := x0'.cell 2
      have t0 := t0'.cell 0
      have t1 := t0'.cell 1
      have t2 := t0'.cell 2
      have q0 := t1'.cell 0
      have q1 := t1'.cell 1
      have q2 := t1'.cell 2
      have f0 := t1'.frozen 0
      have f1 := t1'.frozen 1
      have f2 := t1'.frozen 2
      simp at y2 t0 t1 t2 q0 q1 q2
      have T0 : (0 : Int) ≤ p := by omega
      have T1 : (p : Int) < (vs.length + 1 : Nat) := by omega
      have T2 : (p : Int) < vs.length + 1 := by omega
      clear hset
      go_wp2
      have m1' := l1
      have ss1 := row_set (i := 2) (row_set (i := 1) (row_set (i := 0) r1' l1 (.bool leaf)) l1 (.slice A2 (ks.length + 1) c2)) l1 (.slice (some ⟨g3, 0, none⟩) (vs.length + 1) c3)
      have ss2 := row_set (i := 2) (row_set (i := 1) (row_set (i := 0) r2' l2 (.bool leaf)) l2 (.slice A2 (ks.length + 1) c2)) l2 (.slice (some ⟨g3, 0, none⟩) (vs.length + 1) c3)
      have x2 : Blk (((W.setCell ⟨G + 1, 0, none⟩ (.bool leaf)).setCell ⟨G + 1, 1, none⟩ (.slice A2 (ks.length + 1) c2)).setCell ⟨G + 1, 2, none⟩ (.slice (some ⟨g3, 0, none⟩) (vs.length + 1) c3)) (G + 1) 30 #[.bool leaf, .slice A2 (ks.length + 1) c2, .slice (some ⟨g3, 0, none⟩) (vs.length + 1) c3] := by
        have := ((t1'.set_ 0 (.bool leaf)).set_ 1 (.slice A2 (ks.length + 1) c2)).set_ 2 (.slice (some ⟨g3, 0, none⟩) (vs.length + 1) c3)
        simpa using this
      have v0 := x2.cell 0
      have v1 := x2.cell 1
      have v2 := x2.cell 2
      simp at v0 v1 v2
      refine bodyPost_ret (v := .agg #[.bool leaf, .slice A2 (ks.length + 1) c2, .slice (some ⟨g3, 0, none⟩) (vs.length + 1) c3]) ?h1 rfl ?h2
      case h1 => simp [results, Try.results27, go_sem, v0, v1, v2]
      case h2 =>
        have hle : w.heap.size ≤ G + 1 := by omega
        exact ⟨_, rfl, by rw [HW.out]; exact ⟨_, _, rfl, ss_row ss1, ss_row ss2⟩, below_at (below_at (below_at bel' hle _ _) hle _ _) hle _ _⟩
    · go_simp
      obtain ⟨X2, hX⟩ : ∃ x, X1.alloc (.cells #[.string ⟨#[]⟩] 9) = x := ⟨_, rfl⟩
      have aa : Below X1.heap.size X1 X2 := by rw [← hX]; exact (Below.refl _ _).alloc (Nat.le_refl _) _
      obtain ⟨ive, hive⟩ : ∃ i, X1.heap.size = i := ⟨_, rfl⟩
      have ve : Blk X2 ive 9 #[.string ⟨#[]⟩] := by rw [← hX, ← hive]; exact Blk.new _ _ _
      have n1ve : (Value.slice A1 ks.length c1).ownBlock ≠ some ive := fun e => by have := (o1.lt _ e).2; omega
      have n2ve : (Value.slice C1 vs.length d1).ownBlock ≠ some ive := fun e => by have := (o2.lt _ e).2; omega
      rw [hX, hive]
      have x0 := x0.below aa x0.lt
      have x1 := x1.below aa x1.lt
      have o2 := row_below o2 aa
      have vk := vk.below aa vk.lt
      have o1 := row_below o1 aa
      have bel := hthen bel aa
      have sz := Nat.le_trans sz aa.size
      clear hX aa hive
      try dsimp only
      refine hK.out _ _ (by have h1 := x0.cell 1; have h2 := x0.cell 2; simp at h1 h2; exact ⟨h1, h2⟩) (fun hHeld => ?_)
      clear hK K
      try simp only [Act.put, List.getElem_toArray, List.getElem_cons_succ, List.getElem_cons_zero, List.setIfInBounds_toArray, List.set_cons_zero, List.set_cons_succ]
      refine wpAnyX_ready (rs := [5]) (by kernel_rfl) (by simp) ?_
      refine (AllReadyX.cons rfl (fun K hK => ?_) AllReadyX.nil)
      go_simp
      go_at_call 54
      refine (insert_any w.heap.size (Value.slice A1 ks.length c1) ks ks.length p key _ hple hk6 X2 o1 vk n1vk sz).mono ?_
      rintro e X3 ⟨u1, rfl, r1, m1, kk⟩
      obtain ⟨A2, c2, rfl⟩ := orow_form r1
      have dd1 : ∀ k, (Value.slice A2 (ks.length + 1) c2).ownBlock = some k → (Value.slice C1 vs.length d1).ownBlock ≠ some k := fun k e e2 => (m1 k e).elim (fun e3 => one k e3 e2) (fun e3 => by have := (o2.lt k e2).2; omega)
      have o2 := row_keep o2 kk (fun k e => ⟨(o2.lt k e).2, fun e1 => one k e1 e⟩)
      have x0 := x0.keep kk x0.lt n1
      have x1 := x1.keep kk x1.lt ng1
      have ve := ve.keep kk ve.lt n1ve
      have bel := below_keep bel kk sz (fun j e => (o1.lt j e).1)
      have sz := Nat.le_trans sz kk.size
      clear kk m1 o1
      try dsimp only
      refine hK.out _ _ (by have h1 := x0.cell 1; have h2 := x0.cell 2; simp at h1 h2; exact ⟨h1, h2⟩) (fun hHeld => ?_)
      clear hK K
      try simp only [Act.put, List.getElem_toArray, List.getElem_cons_succ, List.getElem_cons_zero, List.setIfInBounds_toArray, List.set_cons_zero, List.set_cons_succ]
      refine wpAnyX_free (i := 11) (v := ?_) rfl (by kernel_rfl) (by kernel_rfl) (by kernel_rfl) (by kernel_rfl) (fun _ _ _ h => h) (Or.inl ⟨by kernel_rfl, ?_⟩) (.inr hHeld) ?_
      rotate_left
      · (intro w _; go_simp; try with_reducible rfl)
      try simp only [Act.put, List.getElem_toArray, List.getElem_cons_succ, List.getElem_cons_zero, List.setIfInBounds_toArray, List.set_cons_zero, List.set_cons_succ]
      refine wpAnyX_ready (rs := [10]) (by kernel_rfl) (by simp) ?_
      refine (AllReadyX.cons rfl (fun K hK => ?_) AllReadyX.nil)
      go_simp
      go_at_call 54
      refine (insert_any w.heap.size (Value.slice C1 vs.length d1) vs vs.length p [] _ hpv hv6 X3 o2 ve n2ve sz).mono ?_
      rintro e X4 ⟨u2, rfl, r2, m2, kk⟩
      obtain ⟨A3, c3, rfl⟩ := orow_form r2
      have dd2 : ∀ k, (Value.slice A2 (ks.length + 1) c2).ownBlock = some k → (Value.slice A3 (vs.length + 1) c3).ownBlock ≠ some k := fun k e e2 => (m2 k e2).elim (fun e3 => dd1 k e e3) (fun e3 => by have := (r1.lt k e).2; omega)
      have r1 := row_keep r1 kk (fun k e => ⟨(r1.lt k e).2, fun e1 => dd1 k e e1⟩)
      have x0 := x0.keep kk x0.lt n2
      have x1 := x1.keep kk x1.lt ng2
      have bel := below_keep bel kk sz (fun j e => (o2.lt j e).1)
      have sz := Nat.le_trans sz kk.size
      have y1 := x0.cell 1
      have y2 := x0.cell 2
      have f1 := x0.frozen 1
      have f2 := x0.frozen 2
      simp at y1 y2
      clear kk m2 o2 dd1
      try dsimp only
      refine hK.out _ _ (by have h1 := x0.cell 1; have h2 := x0.cell 2; simp at h1 h2; exact ⟨h1, h2⟩) (fun hHeld => ?_)
      clear hK K
      try simp only [Act.put, List.getElem_toArray, List.getElem_cons_succ, List.getElem_cons_zero, List.setIfInBounds_toArray, List.set_cons_zero, List.set_cons_succ]
      refine wpAnyX_ready (rs := [12]) (by kernel_rfl) (by simp) ?_
      refine (AllReadyX.late rfl (by kernel_rfl) (fun K hK => ?_) AllReadyX.nil)
      go_simp
      try dsimp only
      refine hK.out _ _ ?_
      clear hK K
      try simp only [Act.put, List.getElem_toArray, List.getElem_cons_succ, List.getElem_cons_zero, List.setIfInBounds_toArray, List.set_cons_zero, List.set_cons_succ]
      refine wpAnyX_free (i := 13) (v := ?_) rfl (by kernel_rfl) (by kernel_rfl) (by kernel_rfl) (by kernel_rfl) (fun _ _ _ h => h) (Or.inl ⟨by kernel_rfl, ?_⟩) (.inl (by kernel_rfl)) ?_
      rotate_left
      · (intro w _; go_simp; try with_reducible rfl)
      try simp only [Act.put, List.getElem_toArray, List.getElem_cons_succ, List.getElem_cons_zero, List.setIfInBounds_toArray, List.set_cons_zero, List.set_cons_succ]
      refine wpAnyX_ready (rs := [14]) (by kernel_rfl) (by simp) ?_
      refine (AllReadyX.late rfl (by kernel_rfl) (fun K hK => ?_) AllReadyX.nil)
      go_simp
      try dsimp only
      refine hK.out _ _ ?_
      clear hK K
      try simp only [Act.put, List.getElem_toArray, List.getElem_cons_succ, List.getElem_cons_zero, List.setIfInBounds_toArray, List.set_cons_zero, List.set_cons_succ]
      refine wpAnyX_done (by kernel_rfl) ?_ _
      refine NoPanic.normal ?_
      obtain ⟨g3, c4, e3⟩ := orow_pos r2 (by omega)
      cases e3
      have m1 := row_ne r1 x0 (by decide)
      have m2 := row_ne r2 x0 (by decide)
      have l1 := row_ne r1 x1 (by decide)
      have l2 := row_ne r2 x1 (by decide)
      obtain ⟨Y, hY⟩ : ∃ y, (X4.setCell ⟨G, 1, none⟩ (.slice A2 (ks.length + 1) c2)).setCell ⟨G, 2, none⟩ (.slice (some ⟨g3, 0, none⟩) (vs.length + 1) c3) = y := ⟨_, rfl⟩
      have x0' : Blk Y G 30 #[.bool leaf, .slice A2 (ks.length + 1) c2, .slice (some ⟨g3, 0, none⟩) (vs.length + 1) c3] := by
        have := (x0.set_ 1 (.slice A2 (ks.length + 1) c2)).set_ 2 (.slice (some ⟨g3, 0, none⟩) (vs.length + 1) c3)
        rw [← hY]
        simpa using this
      have x1 : Blk Y (G + 1) 30 #[.bool false, .slice none 0 0, .slice none 0 0] := by
        rw [← hY]
        exact (x1.far (p := ⟨G, 1, none⟩) (by simp) _).far (p := ⟨G, 2, none⟩) (by simp) _
      have r1 := row_set (i := 2) (row_set (i := 1) r1 m1 (.slice A2 (ks.length + 1) c2)) m1 (.slice (some ⟨g3, 0, none⟩) (vs.length + 1) c3)
      have r2 := row_set (i := 2) (row_set (i := 1) r2 m2 (.slice A2 (ks.length + 1) c2)) m2 (.slice (some ⟨g3, 0, none⟩) (vs.length + 1) c3)
      have bel : Below w.heap.size w Y := by
        rw [← hY]
        exact below_at (below_at bel (Nat.le_of_eq hG) _ _) (Nat.le_of_eq hG) _ _
      rw [hY] at r1 r2 ⊢
      clear hY x0 y1 y2 f1 f2
      have hg3 : w.heap.size ≤ g3 := (r2.lt g3 rfl).1
      have hne0 : g3 ≠ G := fun e => m2 (by rw [e]; rfl)
      have hne1 : g3 ≠ G + 1 := fun e => l2 (by rw [e]; rfl)
      obtain ⟨z, hz, hfz⟩ := row_slot r2 (show p < vs.length + 1 by omega)
      have r2' := row_put r2 (show p < vs.length + 1 by omega) val
      have r1' := row_set (i := p) r1 (fun e => dd2 _ e rfl) (.string (bstr val))
      have t0' := x0'.far (p := ⟨g3, p, none⟩) (fun e => hne0 e.symm) (.string (bstr val))
      have t1' := x1.far (p := ⟨g3, p, none⟩) (fun e => hne1 e.symm) (.string (bstr val))
      have bel' := below_at bel hg3 p (.string (bstr val))
      have hset : (vs.take p ++ [] :: vs.drop p).set p val = vs.take p ++ val :: vs.drop p := by
        have hpl : (vs.take p).length = p := by rw [List.length_take]; omega
        rw [List.set_append_right _ _ (by omega), hpl, Nat.sub_self]
        rfl
      rw [hset] at r2'
      obtain ⟨W, hW⟩ : ∃ y, Y.setCell ⟨g3, p, none⟩ (.string (bstr val)) = y := ⟨_, rfl⟩
      rw [hW] at r1' r2' t0' t1' bel'
      have y2 := x0'.cell 2
      have t0 := t0'.cell 0
      have t1 := t0'.cell 1
      have t2 := t0'.cell 2
      have q0 := t1'.cell 0
      have q1 := t1'.cell 1
      have q2 := t1'.cell 2
      have f0 := t1'.frozen 0
      have f1 := t1'.frozen 1
      have f2 := t1'.frozen 2
      simp at y2 t0 t1 t2 q0 q1 q2
      have T0 : (0 : Int) ≤ p := by omega
      have T1 : (p : Int) < (vs.length + 1 : Nat) := by omega
      have T2 : (p : Int) < vs.length + 1 := by omega
      clear hset
      go_wp2
      have m1' := l1
      have ss1 := row_set (i := 2) (row_set (i := 1) (row_set (i := 0) r1' l1 (.bool leaf)) l1 (.slice A2 (ks.length + 1) c2)) l1 (.slice (some ⟨g3, 0, none⟩) (vs.length + 1) c3)
      have ss2 := row_set (i := 2) (row_set (i := 1) (row_set (i := 0) r2' l2 (.bool leaf)) l2 (.slice A2 (ks.length + 1) c2)) l2 (.slice (some ⟨g3, 0, none⟩) (vs.length + 1) c3)
      have x2 : Blk (((W.setCell ⟨G + 1, 0, none⟩ (.bool leaf)).setCell ⟨G + 1, 1, none⟩ (.slice A2 (ks.length + 1) c2)).setCell ⟨G + 1, 2, none⟩ (.slice (some ⟨g3, 0, none⟩) (vs.length + 1) c3)) (G + 1) 30 #[.bool leaf, .slice A2 (ks.length + 1) c2, .slice (some ⟨g3, 0, none⟩) (vs.length + 1) c3] := by
        have := ((t1'.set_ 0 (.bool leaf)).set_ 1 (.slice A2 (ks.length + 1) c2)).set_ 2 (.slice (some ⟨g3, 0, none⟩) (vs.length + 1) c3)
        simpa using this
      have v0 := x2.cell 0
      have v1 := x2.cell 1
      have v2 := x2.cell 2
      simp at v0 v1 v2
      refine bodyPost_ret (v := .agg #[.bool leaf, .slice A2 (ks.length + 1) c2, .slice (some ⟨g3, 0, none⟩) (vs.length + 1) c3]) ?h1 rfl ?h2
      case h1 => simp [results, Try.results27, go_sem, v0, v1, v2]
      case h2 =>
        have hle : w.heap.size ≤ G + 1 := by omega
        exact ⟨_, rfl, by rw [HW.out]; exact ⟨_, _, rfl, ss_row ss1, ss_row ss2⟩, below_at (below_at (below_at bel' hle _ _) hle _ _) hle _ _⟩
  · go_simp
    obtain ⟨X1, hX⟩ : ∃ x, Z.alloc (.cells #[.string ⟨#[]⟩] 9) = x := ⟨_, rfl⟩
    have aa : Below Z.heap.size Z X1 := by rw [← hX]; exact (Below.refl _ _).alloc (Nat.le_refl _) _
    obtain ⟨ive, hive⟩ : ∃ i, Z.heap.size = i := ⟨_, rfl⟩
    have ve : Blk X1 ive 9 #[.string ⟨#[]⟩] := by rw [← hX, ← hive]; exact Blk.new _ _ _
    have n1ve : (Value.slice A1 ks.length c1).ownBlock ≠ some ive := fun e => by have := (o1.lt _ e).2; omega
    have n2ve : (Value.slice C1 vs.length d1).ownBlock ≠ some ive := fun e => by have := (o2.lt _ e).2; omega
    rw [hX, hive]
    have x0 := x0.below aa x0.lt
    have x1 := x1.below aa x1.lt
    have o2 := row_below o2 aa
    have o1 := row_below o1 aa
    have bel := hthen bel aa
    have sz := Nat.le_trans sz aa.size
    clear hX aa hive
    try dsimp only
    refine hK.out _ _ (by have h1 := x0.cell 1; have h2 := x0.cell 2; simp at h1 h2; exact ⟨h1, h2⟩) (fun hHeld => ?_)
    clear hK K
    try simp only [Act.put, List.getElem_toArray, List.getElem_cons_succ, List.getElem_cons_zero, List.setIfInBounds_toArray, List.set_cons_zero, List.set_cons_succ]
    refine wpAnyX_ready (rs := [4]) (by kernel_rfl) (by simp) ?_
    refine (AllReadyX.cons rfl (fun K hK => ?_) AllReadyX.nil)
    go_simp
    obtain ⟨X2, hX⟩ : ∃ x, X1.alloc (.cells #[.string (bstr key)] 9) = x := ⟨_, rfl⟩
    have aa : Below X1.heap.size X1 X2 := by rw [← hX]; exact (Below.refl _ _).alloc (Nat.le_refl _) _
    obtain ⟨ivk, hivk⟩ : ∃ i, X1.heap.size = i := ⟨_, rfl⟩
    have vk : Blk X2 ivk 9 #[.string (bstr key)] := by rw [← hX, ← hivk]; exact Blk.new _ _ _
    have n1vk : (Value.slice A1 ks.length c1).ownBlock ≠ some ivk := fun e => by have := (o1.lt _ e).2; omega
    have n2vk : (Value.slice C1 vs.length d1).ownBlock ≠ some ivk := fun e => by have := (o2.lt _ e).2; omega
    rw [hX, hivk]
    have x0 := x0.below aa x0.lt
    have x1 := x1.below aa x1.lt
    have o2 := row_below o2 aa
    have ve := ve.below aa ve.lt
    have o1 := row_below o1 aa
    have bel := hthen bel aa
    have sz := Nat.le_trans sz aa.size
    clear hX aa hivk
    try dsimp only
    refine hK.out _ _ (by have h1 := x0.cell 1; have h2 := x0.cell 2; simp at h1 h2; exact ⟨h1, h2⟩) (fun hHeld => ?_)
    clear hK K
    try simp only [Act.put, List.getElem_toArray, List.getElem_cons_succ, List.getElem_cons_zero, List.setIfInBounds_toArray, List.set_cons_zero, List.set_cons_succ]
    refine wpAnyX_ready (rs := [5]) (by kernel_rfl) (by simp) ?_
    refine (AllReadyX.cons rfl (fun K hK => ?_) AllReadyX.nil)
    go_simp
    go_at_call 54
    refine (insert_any w.heap.size (Value.slice A1 ks.length c1) ks ks.length p key _ hple hk6 X2 o1 vk n1vk sz).mono ?_
    rintro e X3 ⟨u1, rfl, r1, m1, kk⟩
    obtain ⟨A2, c2, rfl⟩ := orow_form r1
    have dd1 : ∀ k, (Value.slice A2 (ks.length + 1) c2).ownBlock = some k → (Value.slice C1 vs.length d1).ownBlock ≠ some k := fun k e e2 => (m1 k e).elim (fun e3 => one k e3 e2) (fun e3 => by have := (o2.lt k e2).2; omega)
    have o2 := row_keep o2 kk (fun k e => ⟨(o2.lt k e).2, fun e1 => one k e1 e⟩)
    have x0 := x0.keep kk x0.lt n1
    have x1 := x1.keep kk x1.lt ng1
    have ve := ve.keep kk ve.lt n1ve
    have bel := below_keep bel kk sz (fun j e => (o1.lt j e).1)
    have sz := Nat.le_trans sz kk.size
    clear kk m1 o1
    try dsimp only
    refine hK.out _ _ (by have h1 := x0.cell 1; have h2 := x0.cell 2; simp at h1 h2; exact ⟨h1, h2⟩) (fun hHeld => ?_)
    clear hK K
    try simp only [Act.put, List.getElem_toArray, List.getElem_cons_succ, List.getElem_cons_zero, List.setIfInBounds_toArray, List.set_cons_zero, List.set_cons_succ]
    refine wpAnyX_free (i := 11) (v := ?_) rfl (by kernel_rfl) (by kernel_rfl) (by kernel_rfl) (by kernel_rfl) (fun _ _ _ h => h) (Or.inl ⟨by kernel_rfl, ?_⟩) (.inr hHeld) ?_
    rotate_left
    · (intro w _; go_simp; try with_reducible rfl)
    try simp only [Act.put, List.getElem_toArray, List.getElem_cons_succ, List.getElem_cons_zero, List.setIfInBounds_toArray, List.set_cons_zero, List.set_cons_succ]
    refine wpAnyX_ready (rs := [10]) (by kernel_rfl) (by simp) ?_
    refine (AllReadyX.cons rfl (fun K hK => ?_) AllReadyX.nil)
    go_simp
    go_at_call 54
    refine (insert_any w.heap.size (Value.slice C1 vs.length d1) vs vs.length p [] _ hpv hv6 X3 o2 ve n2ve sz).mono ?_
    rintro e X4 ⟨u2, rfl, r2, m2, kk⟩
    obtain ⟨A3, c3, rfl⟩ := orow_form r2
    have dd2 : ∀ k, (Value.slice A2 (ks.length + 1) c2).ownBlock = some k → (Value.slice A3 (vs.length + 1) c3).ownBlock ≠ some k := fun k e e2 => (m2 k e2).elim (fun e3 => dd1 k e e3) (fun e3 => by have := (r1.lt k e).2; omega)
    have r1 := row_keep r1 kk (fun k e => ⟨(r1.lt k e).2, fun e1 => dd1 k e e1⟩)
    have x0 := x0.keep kk x0.lt n2
    have x1 := x1.keep kk x1.lt ng2
    have bel := below_keep bel kk sz (fun j e => (o2.lt j e).1)
    have sz := Nat.le_trans sz kk.size
    have y1 := x0.cell 1
    have y2 := x0.cell 2
    have f1 := x0.frozen 1
    have f2 := x0.frozen 2
    simp at y1 y2
    clear kk m2 o2 dd1
    try dsimp only
    refine hK.out _ _ (by have h1 := x0.cell 1; have h2 := x0.cell 2; simp at h1 h2; exact ⟨h1, h2⟩) (fun hHeld => ?_)
    clear hK K
    try simp only [Act.put, List.getElem_toArray, List.getElem_cons_succ, List.getElem_cons_zero, List.setIfInBounds_toArray, List.set_cons_zero, List.set_cons_succ]
    refine wpAnyX_ready (rs := [12]) (by kernel_rfl) (by simp) ?_
    refine (AllReadyX.late rfl (by kernel_rfl) (fun K hK => ?_) AllReadyX.nil)
    go_simp
    try dsimp only
    refine hK.out _ _ ?_
    clear hK K
    try simp only [Act.put, List.getElem_toArray, List.getElem_cons_succ, List.getElem_cons_zero, List.setIfInBounds_toArray, List.set_cons_zero, List.set_cons_succ]
    refine wpAnyX_free (i := 13) (v := ?_) rfl (by kernel_rfl) (by kernel_rfl) (by kernel_rfl) (by kernel_rfl) (fun _ _ _ h => h) (Or.inl ⟨by kernel_rfl, ?_⟩) (.inl (by kernel_rfl)) ?_
    rotate_left
    · (intro w _; go_simp; try with_reducible rfl)
    try simp only [Act.put, List.getElem_toArray, List.getElem_cons_succ, List.getElem_cons_zero, List.setIfInBounds_toArray, List.set_cons_zero, List.set_cons_succ]
    refine wpAnyX_ready (rs := [14]) (by kernel_rfl) (by simp) ?_
    refine (AllReadyX.late rfl (by kernel_rfl) (fun K hK => ?_) AllReadyX.nil)
    go_simp
    try dsimp only
    refine hK.out _ _ ?_
    clear hK K
    try simp only [Act.put, List.getElem_toArray, List.getElem_cons_succ, List.getElem_cons_zero, List.setIfInBounds_toArray, List.set_cons_zero, List.set_cons_succ]
    refine wpAnyX_done (by kernel_rfl) ?_ _
    refine NoPanic.normal ?_
    obtain ⟨g3, c4, e3⟩ := orow_pos r2 (by omega)
    cases e3
    have m1 := row_ne r1 x0 (by decide)
    have m2 := row_ne r2 x0 (by decide)
    have l1 := row_ne r1 x1 (by decide)
    have l2 := row_ne r2 x1 (by decide)
    obtain ⟨Y, hY⟩ : ∃ y, (X4.setCell ⟨G, 1, none⟩ (.slice A2 (ks.length + 1) c2)).setCell ⟨G, 2, none⟩ (.slice (some ⟨g3, 0, none⟩) (vs.length + 1) c3) = y := ⟨_, rfl⟩
    have x0' : Blk Y G 30 #[.bool leaf, .slice A2 (ks.length + 1) c2, .slice (some ⟨g3, 0, none⟩) (vs.length + 1) c3] := by
      have := (x0.set_ 1 (.slice A2 (ks.length + 1) c2)).set_ 2 (.slice (some ⟨g3, 0, none⟩) (vs.length + 1) c3)
      rw [← hY]
      simpa using this
    have x1 : Blk Y (G + 1) 30 #[.bool false, .slice none 0 0, .slice none 0 0] := by
      rw [← hY]
      exact (x1.far (p := ⟨G, 1, none⟩) (by simp) _).far (p := ⟨G, 2, none⟩) (by simp) _
    have r1 := row_set (i := 2) (row_set (i := 1) r1 m1 (.slice A2 (ks.length + 1) c2)) m1 (.slice (some ⟨g3, 0, none⟩) (vs.length + 1) c3)
    have r2 := row_set (i := 2) (row_set (i := 1) r2 m2 (.slice A2 (ks.length + 1) c2)) m2 (.slice (some ⟨g3, 0, none⟩) (vs.length + 1) c3)
    have bel : Below w.heap.size w Y := by
      rw [← hY]
      exact below_at (below_at bel (Nat.le_of_eq hG) _ _) (Nat.le_of_eq hG) _ _
    rw [hY] at r1 r2 ⊢
    clear hY x0 y1 y2 f1 f2
    have hg3 : w.heap.size ≤ g3 := (r2.lt g3 rfl).1
    have hne0 : g3 ≠ G := fun e => m2 (by rw [e]; rfl)
    have hne1 : g3 ≠ G + 1 := fun e => l2 (by rw [e]; rfl)
    obtain ⟨z, hz, hfz⟩ := row_slot r2 (show p < vs.length + 1 by omega)
    have r2' := row_put r2 (show p < vs.length + 1 by omega) val
    have r1' := row_set (i := p) r1 (fun e => dd2 _ e rfl) (.string (bstr val))
    have t0' := x0'.far (p := ⟨g3, p, none⟩) (fun e => hne0 e.symm) (.string (bstr val))
    have t1' := x1.far (p := ⟨g3, p, none⟩) (fun e => hne1 e.symm) (.string (bstr val))
    have bel' := below_at bel hg3 p (.string (bstr val))
    have hset : (vs.take p ++ [] :: vs.drop p).set p val = vs.take p ++ val :: vs.drop p := by
      have hpl : (vs.take p).length = p := by rw [List.length_take]; omega
      rw [List.set_append_right _ _ (by omega), hpl, Nat.sub_self]
      rfl
    rw [hset] at r2'
    obtain ⟨W, hW⟩ : ∃ y, Y.setCell ⟨g3, p, none⟩ (.string (bstr val)) = y := ⟨_, rfl⟩
    rw [hW] at r1' r2' t0' t1' bel'
    have y2 := x0'.cell 2
    have t0 := t0'.cell 0
    have t1 := t0'.cell 1
    have t2 := t0'.cell 2
    have q0 := t1'.cell 0
    have q1 := t1'.cell 1
    have q2 := t1'.cell 2
    have f0 := t1'.frozen 0
    have f1 := t1'.frozen 1
    have f2 := t1'.frozen 2
    simp at y2 t0 t1 t2 q0 q1 q2
    have T0 : (0 : Int) ≤ p := by omega
    have T1 : (p : Int) < (vs.length + 1 : Nat) := by omega
    have T2 : (p : Int) < vs.length + 1 := by omega
    clear hset
    go_wp2
    have m1' := l1
    have ss1 := row_set (i := 2) (row_set (i := 1) (row_set (i := 0) r1' l1 (.bool leaf)) l1 (.slice A2 (ks.length + 1) c2)) l1 (.slice (some ⟨g3, 0, none⟩) (vs.length + 1) c3)
    have ss2 := row_set (i := 2) (row_set (i := 1) (row_set (i := 0) r2' l2 (.bool leaf)) l2 (.slice A2 (ks.length + 1) c2)) l2 (.slice (some ⟨g3, 0, none⟩) (vs.length + 1) c3)
    have x2 : Blk (((W.setCell ⟨G + 1, 0, none⟩ (.bool leaf)).setCell ⟨G + 1, 1, none⟩ (.slice A2 (ks.length + 1) c2)).setCell ⟨G + 1, 2, none⟩ (.slice (some ⟨g3, 0, none⟩) (vs.length + 1) c3)) (G + 1) 30 #[.bool leaf, .slice A2 (ks.length + 1) c2, .slice (some ⟨g3, 0, none⟩) (vs.length + 1) c3] := by
      have := ((t1'.set_ 0 (.bool leaf)).set_ 1 (.slice A2 (ks.length + 1) c2)).set_ 2 (.slice (some ⟨g3, 0, none⟩) (vs.length + 1) c3)
      simpa using this
    have v0 := x2.cell 0
    have v1 := x2.cell 1
    have v2 := x2.cell 2
    simp at v0 v1 v2
    refine bodyPost_ret (v := .agg #[.bool leaf, .slice A2 (ks.length + 1) c2, .slice (some ⟨g3, 0, none⟩) (vs.length + 1) c3]) ?h1 rfl ?h2
    case h1 => simp [results, Try.results27, go_sem, v0, v1, v2]
    case h2 =>
      have hle : w.heap.size ≤ G + 1 := by omega
      exact ⟨_, rfl, by rw [HW.out]; exact ⟨_, _, rfl, ss_row ss1, ss_row ss2⟩, below_at (below_at (below_at bel' hle _ _) hle _ _) hle _ _⟩
end Go.Proofs.Ytiodeeliidhbgaa
