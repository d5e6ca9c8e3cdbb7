/- The reference's devices: contracts of Spoil, Waits, New; Locs. -/
import Derived.Test.YtmlakbdigbpmaaaRv4
namespace Go.Proofs.Ytmlakbdigbpmaaa
open Go.RowKit
set_option linter.unusedSimpArgs false
set_option linter.unnecessarySimpa false
set_option linter.unusedVariables false


set_option maxRecDepth 100000 in
set_option maxHeartbeats 4000000 in
theorem rspoil0 (g sb gb b0 b1 : Nat) (v : Value) (d : Dv) (k : Nat) (t : List UInt8) (he : Hid (mayE d ⟨0, k⟩ t = 0)) (hn : d.ws.length ≤ 100000) (w : World) (h : RvAt w g sb gb b0 b1 v d) :
    Calls Try.prog 29 #[.pointer (some ⟨g, 0, none⟩), .agg #[.int .i64 0, .int .i64 k], .string (bstr t)] w fun e w' => e = .returned (.int .i64 0) ∧ (∃ v', RvAt w' g sb gb b0 b1 v' (d.spoil ⟨⟨0, k⟩, t⟩) ∧ (∀ k, zblock v' = some k → w.heap.size ≤ k)) ∧ Keep w.heap.size (fun k => k = g ∨ k = b0 ∨ k = b1) w w' := by
  obtain ⟨A', c', rfl, _, _⟩ := h.form
  have hk : k < d.s0.length := by have := (may_zero he.out).2.2; simp [Dv.sec] at this; omega
  have hkl : (k : Int) < d.s0.length := by omega
  have hk0 : (0 : Int) ≤ k := by omega
  go_enter Try.func29, Try.ntmps29
  go_wp2_with fail
  obtain ⟨G, hG⟩ : ∃ g, w.heap.size = g := ⟨_, rfl⟩
  obtain ⟨w0, hw0⟩ : ∃ x, w.alloc (.cells #[.int .i64 0, .int .i64 k] 29) = x := ⟨_, rfl⟩
  have bx : Below w.heap.size w w0 := by rw [← hw0]; exact (Below.refl _ _).alloc (Nat.le_refl _) _
  have hx : Blk w0 G 29 #[.int .i64 0, .int .i64 k] := by rw [← hw0, ← hG]; exact Blk.new _ _ _
  rw [hw0]
  try rw [hG]
  refine (rwrong_to he.out g sb gb b0 b1 _ w0 (h.below bx)).mono ?_
  rintro e w1 ⟨rfl, c1⟩
  have k1 := bx.trans (c1.mono bx.size)
  have hx1 := hx.below c1 hx.lt
  have hd := h.below k1
  have hsz1 := k1.size
  obtain ⟨wA, rfl⟩ : ∃ wA : World, wA = w1 := ⟨_, rfl⟩
  go_wp2_with fail
  go_loopw [8, 9] (fun u i wr => ∃ j : Nat, j ≤ d.ws.length ∧ i = .int .i64 j ∧ Owns wr 66 3 u ((d.ws.take j).filter (fun x => !decide (x.loc = ⟨0, k⟩))).length (wrsV ((d.ws.take j).filter (fun x => !decide (x.loc = ⟨0, k⟩)))) ∧ (∀ k, zblock u = some k → wA.heap.size ≤ k) ∧ Below wA.heap.size wA wr) (fun _ i _ => d.ws.length - (intOf i).toNat)
  case atStart => exact ⟨0, by omega, rfl, Owns.nil _ _ _, (fun k e => by cases e), Below.refl _ _⟩
  case round =>
    obtain ⟨j, hj, rfl, hu, hz, hb⟩ := hrel
    have h2 := hd.below hb
    have Y2 := h2.cell2.1
    have hsz := hb.size
    have hx2 := hx1.below hb hx1.lt
    have X0 := hx2.cell 0
    have X1 := hx2.cell 1
    simp at X0 X1
    by_cases hlt : j < d.ws.length
    · have ho := h2.hw.row (by omega)
      obtain ⟨gr, rfl⟩ : ∃ gr, A' = some ⟨gr, 0, none⟩ := by
        rcases ho.2 with ⟨_, h0⟩ | ⟨gr, cap, cur, e, _⟩
        · omega
        · simp at e; exact ⟨gr, e.1⟩
      obtain ⟨g1, g2, g3⟩ := wrsV_get d.ws j hlt
      have w0' := ho.cellAt (j * 3) (by omega)
      have w1' := ho.cellAt (j * 3 + 1) (by omega)
      have w2' := ho.cellAt (j * 3 + 2) (by omega)
      rw [g1] at w0'
      rw [g2] at w1'
      rw [g3] at w2'
      have hle : ((d.ws.take j).filter (fun x => !decide (x.loc = ⟨0, k⟩))).length ≤ 100000 := Nat.le_trans (List.length_filter_le _ _) (by rw [List.length_take]; omega)
      have F1 := Lib.hid (bounds_100k hle 32 (by decide))
      have q1 : decide ((j : Int) < (d.ws.length : Int)) = true := decide_eq_true (by omega)
      clear g1 g2 g3 ho hle h2
      obtain ⟨i0, hi0, hz0, hz1, hz2⟩ := info_parts rwr_info
      by_cases m1 : d.ws[j].loc.dev = 0
      · by_cases m2 : d.ws[j].loc.pos = (k : Int)
        · have hloc : d.ws[j].loc = ⟨0, k⟩ := (lc_eq _ _).2 ⟨m1, m2⟩
          have hfil : (d.ws.take (j + 1)).filter (fun x => !decide (x.loc = ⟨0, k⟩)) = (d.ws.take j).filter (fun x => !decide (x.loc = ⟨0, k⟩)) := by
            rw [List.take_succ_eq_append_getElem hlt, List.filter_append]; simp [hloc]
          have HFIL := Lib.hid hfil
          clear hfil hloc
          go_wp2_with fail
          go_quiet (fail)
          go_wp2_with fail
          go_round
          case rel => exact ⟨j + 1, by omega, by go_num, by rw [HFIL.out]; exact hu.below ((Below.refl _ _).dN _), hz, hb.dN _⟩
          case measure => simp [intOf]; omega
        · have hloc : ¬ d.ws[j].loc = ⟨0, k⟩ := fun e => m2 ((lc_eq _ _).1 e).2
          have hfil : (d.ws.take (j + 1)).filter (fun x => !decide (x.loc = ⟨0, k⟩)) = (d.ws.take j).filter (fun x => !decide (x.loc = ⟨0, k⟩)) ++ [d.ws[j]] := by
            rw [List.take_succ_eq_append_getElem hlt, List.filter_append]; simp [hloc]
          have HFIL := Lib.hid hfil
          have hus : wrV d.ws[j] = [.int .i64 0, .int .i64 d.ws[j].loc.pos, .string (bstr d.ws[j].text)] := by simp [wrV, m1]
          have HUS := Lib.hid hus
          clear hfil hloc hus
          go_wp2_with fail
          go_quiet (fail)
          go_wp2_with (at_builtin; refine wpList_append_z (P := Try.prog) _ rfl _ _ 43 rfl 66 i0 _ 3 32 Try.underlying43 hi0 hz0 hz1 hz2 rfl (by decide) _ _ _ rfl ((hu.below ((Below.refl _ _).dN _)).alloc _) ⟨wr.heap.size, 0, none⟩ 1 1 [.int .i64 0, .int .i64 d.ws[j].loc.pos, .string (bstr d.ws[j].text)] rfl rfl (World.news_of_block (Blk.new _ _ _)) (fun u hu => by simp at hu; rcases hu with rfl | rfl | rfl <;> rfl) (by decide) F1.out.1 F1.out.2 _ rfl ?_; intro gn cap w9 hown9 hgrow9 hat9 hlt9 hcap9)
          rw [← HUS.out] at hown9
          have hb9 : Below wA.heap.size wA w9 := ((hb.dN _).alloc hsz _).grown hgrow9 (by simp; omega) (fun k e => hz k e)
          have hz9 : ∀ q, zblock (.slice (some ⟨gn, 0, none⟩) (((d.ws.take j).filter (fun x => !decide (x.loc = ⟨0, k⟩))).length + 1) cap) = some q → wA.heap.size ≤ q := by
            intro q e
            rw [zblock_some hcap9] at e
            cases e
            rcases hat9 with e | e
            · exact hz _ e
            · simp at e; simp; omega
          have HZ := Lib.hid hz9
          have ho9 : Owns w9 66 3 (.slice (some ⟨gn, 0, none⟩) (((d.ws.take j).filter (fun x => !decide (x.loc = ⟨0, k⟩))).length + 1) cap) ((d.ws.take (j + 1)).filter (fun x => !decide (x.loc = ⟨0, k⟩))).length (wrsV ((d.ws.take (j + 1)).filter (fun x => !decide (x.loc = ⟨0, k⟩)))) := by
            rw [HFIL.out, List.length_append, wrsV_snoc]; exact hown9
          have HO := Lib.hid ho9
          clear hz9 ho9 hown9 hgrow9 hat9
          go_wp2
          go_round
          case rel => exact ⟨j + 1, by omega, by go_num, HO.out, HZ.out, hb9⟩
          case measure => simp [intOf]; omega
      · have hloc : ¬ d.ws[j].loc = ⟨0, k⟩ := fun e => m1 ((lc_eq _ _).1 e).1
        have hfil : (d.ws.take (j + 1)).filter (fun x => !decide (x.loc = ⟨0, k⟩)) = (d.ws.take j).filter (fun x => !decide (x.loc = ⟨0, k⟩)) ++ [d.ws[j]] := by
          rw [List.take_succ_eq_append_getElem hlt, List.filter_append]; simp [hloc]
        have HFIL := Lib.hid hfil
        have hus : wrV d.ws[j] = [.int .i64 d.ws[j].loc.dev, .int .i64 d.ws[j].loc.pos, .string (bstr d.ws[j].text)] := by simp [wrV]
        have HUS := Lib.hid hus
        clear hfil hloc hus
        go_wp2_with fail
        go_quiet (fail)
        go_wp2_with (at_builtin; refine wpList_append_z (P := Try.prog) _ rfl _ _ 43 rfl 66 i0 _ 3 32 Try.underlying43 hi0 hz0 hz1 hz2 rfl (by decide) _ _ _ rfl ((hu.below ((Below.refl _ _).dN _)).alloc _) ⟨wr.heap.size, 0, none⟩ 1 1 [.int .i64 d.ws[j].loc.dev, .int .i64 d.ws[j].loc.pos, .string (bstr d.ws[j].text)] rfl rfl (World.news_of_block (Blk.new _ _ _)) (fun u hu => by simp at hu; rcases hu with rfl | rfl | rfl <;> rfl) (by decide) F1.out.1 F1.out.2 _ rfl ?_; intro gn cap w9 hown9 hgrow9 hat9 hlt9 hcap9)
        rw [← HUS.out] at hown9
        have hb9 : Below wA.heap.size wA w9 := ((hb.dN _).alloc hsz _).grown hgrow9 (by simp; omega) (fun k e => hz k e)
        have hz9 : ∀ q, zblock (.slice (some ⟨gn, 0, none⟩) (((d.ws.take j).filter (fun x => !decide (x.loc = ⟨0, k⟩))).length + 1) cap) = some q → wA.heap.size ≤ q := by
          intro q e
          rw [zblock_some hcap9] at e
          cases e
          rcases hat9 with e | e
          · exact hz _ e
          · simp at e; simp; omega
        have HZ := Lib.hid hz9
        have ho9 : Owns w9 66 3 (.slice (some ⟨gn, 0, none⟩) (((d.ws.take j).filter (fun x => !decide (x.loc = ⟨0, k⟩))).length + 1) cap) ((d.ws.take (j + 1)).filter (fun x => !decide (x.loc = ⟨0, k⟩))).length (wrsV ((d.ws.take (j + 1)).filter (fun x => !decide (x.loc = ⟨0, k⟩)))) := by
          rw [HFIL.out, List.length_append, wrsV_snoc]; exact hown9
        have HO := Lib.hid ho9
        clear hz9 ho9 hown9 hgrow9 hat9
        go_wp2
        go_round
        case rel => exact ⟨j + 1, by omega, by go_num, HO.out, HZ.out, hb9⟩
        case measure => simp [intOf]; omega
    · obtain rfl : j = d.ws.length := by omega
      rw [List.take_length] at hu
      have F2 := h2.cell2.2
      obtain ⟨U, C, rfl, _, _⟩ := hu.form
      have hset := h2.setWs _ _ hu
      have hg0 : G ≠ g := by have := h.lt (k := g) (.inl rfl); omega
      have hxs := hx2.far (p := ⟨g, 2, none⟩) hg0 (.slice U (d.ws.filter (fun x => !decide (x.loc = ⟨0, k⟩))).length C)
      obtain ⟨wB, hwB⟩ : ∃ x, wr.setCell ⟨g, 2, none⟩ (.slice U (d.ws.filter (fun x => !decide (x.loc = ⟨0, k⟩))).length C) = x := ⟨_, rfl⟩
      have HWB := Lib.hid hwB
      rw [hwB] at hset hxs
      have kB : Keep w.heap.size (fun k => k = g ∨ k = b0 ∨ k = b1) w wB := by
        rw [← hwB]
        exact (Keep.of_below (k1.trans (hb.mono hsz1))).setCell (p := ⟨g, 2, none⟩) (.inr (.inl rfl)) _
      have q1 : decide ((d.ws.length : Int) < (d.ws.length : Int)) = false := decide_eq_false (by omega)
      have hput := hset.put ⟨⟨0, k⟩, t⟩ (.inl rfl) k rfl
      have HP := Lib.hid hput
      obtain ⟨⟨n1, n2, n3, n4, z1⟩, ⟨m1, m2, m3, z2⟩, ⟨l1, l2, z3⟩, z4, z5⟩ := hset.apart
      obtain ⟨C0, C1, hg, hs, hl, r0, r1⟩ := hset.hx
      have hGb : G ≠ b0 := by have := h.lt (k := b0) (.inr (.inr (.inr (.inl rfl)))); omega
      have y0 := hg.cell 0
      have zz := hs.cell 0
      have x0 := hxs.cell 0
      have x1 := hxs.cell 1
      obtain ⟨T, tt⟩ : ∃ T, wB.cell? ⟨b0, k, none⟩ = some (.string T) := ⟨_, by rw [r0.cellAt k (by show k < d.s0.length * 1; omega), secV_get _ _ (by show k < d.s0.length; omega)]⟩
      have ff := r0.frozenAt k
      simp at y0 zz x0 x1
      clear hu h2 hset hput hwB hg hs hl r0 r1 hxs
      go_wp2_with fail
      rw [HWB.out]
      go_region_held3 (fun w' => w'.cell? ⟨g, 0, none⟩ = some (.slice (some ⟨sb, 0, none⟩) 2 2) ∧ w'.cell? ⟨G, 0, none⟩ = some (.int .i64 0) ∧ w'.cell? ⟨G, 1, none⟩ = some (.int .i64 k) ∧ w'.cell? ⟨sb, 0, none⟩ = some (.slice (some ⟨b0, 0, none⟩) d.s0.length C0))
        (first | exact ⟨y0, x0, x1, zz⟩ | exact ⟨cell_far y0 (by exact n3) _, cell_far x0 (by exact hGb) _, cell_far x1 (by exact hGb) _, cell_far zz (by exact m2) _⟩ | go_keep)
        (fail)
      go_wp2
      go_ret
      exact ⟨rfl, ⟨_, HP.out.drew, fun k e => Nat.le_trans hsz1 (hz k e)⟩, (kB.setCell (p := ⟨b0, k, none⟩) (.inr (by exact .inr (.inl rfl))) _).drew⟩

set_option maxRecDepth 100000 in
set_option maxHeartbeats 4000000 in
theorem rspoil1 (g sb gb b0 b1 : Nat) (v : Value) (d : Dv) (k : Nat) (t : List UInt8) (he : Hid (mayE d ⟨1, k⟩ t = 0)) (hn : d.ws.length ≤ 100000) (w : World) (h : RvAt w g sb gb b0 b1 v d) :
    Calls Try.prog 29 #[.pointer (some ⟨g, 0, none⟩), .agg #[.int .i64 1, .int .i64 k], .string (bstr t)] w fun e w' => e = .returned (.int .i64 0) ∧ (∃ v', RvAt w' g sb gb b0 b1 v' (d.spoil ⟨⟨1, k⟩, t⟩) ∧ (∀ k, zblock v' = some k → w.heap.size ≤ k)) ∧ Keep w.heap.size (fun k => k = g ∨ k = b0 ∨ k = b1) w w' := by
  obtain ⟨A', c', rfl, _, _⟩ := h.form
  have hk : k < d.s1.length := by have := (may_zero he.out).2.2; simp [Dv.sec] at this; omega
  have hkl : (k : Int) < d.s1.length := by omega
  have hk0 : (0 : Int) ≤ k := by omega
  go_enter Try.func29, Try.ntmps29
  go_wp2_with fail
  obtain ⟨G, hG⟩ : ∃ g, w.heap.size = g := ⟨_, rfl⟩
  obtain ⟨w0, hw0⟩ : ∃ x, w.alloc (.cells #[.int .i64 1, .int .i64 k] 29) = x := ⟨_, rfl⟩
  have bx : Below w.heap.size w w0 := by rw [← hw0]; exact (Below.refl _ _).alloc (Nat.le_refl _) _
  have hx : Blk w0 G 29 #[.int .i64 1, .int .i64 k] := by rw [← hw0, ← hG]; exact Blk.new _ _ _
  rw [hw0]
  try rw [hG]
  refine (rwrong_to he.out g sb gb b0 b1 _ w0 (h.below bx)).mono ?_
  rintro e w1 ⟨rfl, c1⟩
  have k1 := bx.trans (c1.mono bx.size)
  have hx1 := hx.below c1 hx.lt
  have hd := h.below k1
  have hsz1 := k1.size
  obtain ⟨wA, rfl⟩ : ∃ wA : World, wA = w1 := ⟨_, rfl⟩
  go_wp2_with fail
  go_loopw [8, 9] (fun u i wr => ∃ j : Nat, j ≤ d.ws.length ∧ i = .int .i64 j ∧ Owns wr 66 3 u ((d.ws.take j).filter (fun x => !decide (x.loc = ⟨1, k⟩))).length (wrsV ((d.ws.take j).filter (fun x => !decide (x.loc = ⟨1, k⟩)))) ∧ (∀ k, zblock u = some k → wA.heap.size ≤ k) ∧ Below wA.heap.size wA wr) (fun _ i _ => d.ws.length - (intOf i).toNat)
  case atStart => exact ⟨0, by omega, rfl, Owns.nil _ _ _, (fun k e => by cases e), Below.refl _ _⟩
  case round =>
    obtain ⟨j, hj, rfl, hu, hz, hb⟩ := hrel
    have h2 := hd.below hb
    have Y2 := h2.cell2.1
    have hsz := hb.size
    have hx2 := hx1.below hb hx1.lt
    have X0 := hx2.cell 0
    have X1 := hx2.cell 1
    simp at X0 X1
    by_cases hlt : j < d.ws.length
    · have ho := h2.hw.row (by omega)
      obtain ⟨gr, rfl⟩ : ∃ gr, A' = some ⟨gr, 0, none⟩ := by
        rcases ho.2 with ⟨_, h0⟩ | ⟨gr, cap, cur, e, _⟩
        · omega
        · simp at e; exact ⟨gr, e.1⟩
      obtain ⟨g1, g2, g3⟩ := wrsV_get d.ws j hlt
      have w0' := ho.cellAt (j * 3) (by omega)
      have w1' := ho.cellAt (j * 3 + 1) (by omega)
      have w2' := ho.cellAt (j * 3 + 2) (by omega)
      rw [g1] at w0'
      rw [g2] at w1'
      rw [g3] at w2'
      have hle : ((d.ws.take j).filter (fun x => !decide (x.loc = ⟨1, k⟩))).length ≤ 100000 := Nat.le_trans (List.length_filter_le _ _) (by rw [List.length_take]; omega)
      have F1 := Lib.hid (bounds_100k hle 32 (by decide))
      have q1 : decide ((j : Int) < (d.ws.length : Int)) = true := decide_eq_true (by omega)
      clear g1 g2 g3 ho hle h2
      obtain ⟨i0, hi0, hz0, hz1, hz2⟩ := info_parts rwr_info
      by_cases m1 : d.ws[j].loc.dev = 1
      · by_cases m2 : d.ws[j].loc.pos = (k : Int)
        · have hloc : d.ws[j].loc = ⟨1, k⟩ := (lc_eq _ _).2 ⟨m1, m2⟩
          have hfil : (d.ws.take (j + 1)).filter (fun x => !decide (x.loc = ⟨1, k⟩)) = (d.ws.take j).filter (fun x => !decide (x.loc = ⟨1, k⟩)) := by
            rw [List.take_succ_eq_append_getElem hlt, List.filter_append]; simp [hloc]
          have HFIL := Lib.hid hfil
          clear hfil hloc
          go_wp2_with fail
          go_quiet (fail)
          go_wp2_with fail
          go_round
          case rel => exact ⟨j + 1, by omega, by go_num, by rw [HFIL.out]; exact hu.below ((Below.refl _ _).dN _), hz, hb.dN _⟩
          case measure => simp [intOf]; omega
        · have hloc : ¬ d.ws[j].loc = ⟨1, k⟩ := fun e => m2 ((lc_eq _ _).1 e).2
          have hfil : (d.ws.take (j + 1)).filter (fun x => !decide (x.loc = ⟨1, k⟩)) = (d.ws.take j).filter (fun x => !decide (x.loc = ⟨1, k⟩)) ++ [d.ws[j]] := by
            rw [List.take_succ_eq_append_getElem hlt, List.filter_append]; simp [hloc]
          have HFIL := Lib.hid hfil
          have hus : wrV d.ws[j] = [.int .i64 1, .int .i64 d.ws[j].loc.pos, .string (bstr d.ws[j].text)] := by simp [wrV, m1]
          have HUS := Lib.hid hus
          clear hfil hloc hus
          go_wp2_with fail
          go_quiet (fail)
          go_wp2_with (at_builtin; refine wpList_append_z (P := Try.prog) _ rfl _ _ 43 rfl 66 i0 _ 3 32 Try.underlying43 hi0 hz0 hz1 hz2 rfl (by decide) _ _ _ rfl ((hu.below ((Below.refl _ _).dN _)).alloc _) ⟨wr.heap.size, 0, none⟩ 1 1 [.int .i64 1, .int .i64 d.ws[j].loc.pos, .string (bstr d.ws[j].text)] rfl rfl (World.news_of_block (Blk.new _ _ _)) (fun u hu => by simp at hu; rcases hu with rfl | rfl | rfl <;> rfl) (by decide) F1.out.1 F1.out.2 _ rfl ?_; intro gn cap w9 hown9 hgrow9 hat9 hlt9 hcap9)
          rw [← HUS.out] at hown9
          have hb9 : Below wA.heap.size wA w9 := ((hb.dN _).alloc hsz _).grown hgrow9 (by simp; omega) (fun k e => hz k e)
          have hz9 : ∀ q, zblock (.slice (some ⟨gn, 0, none⟩) (((d.ws.take j).filter (fun x => !decide (x.loc = ⟨1, k⟩))).length + 1) cap) = some q → wA.heap.size ≤ q := by
            intro q e
            rw [zblock_some hcap9] at e
            cases e
            rcases hat9 with e | e
            · exact hz _ e
            · simp at e; simp; omega
          have HZ := Lib.hid hz9
          have ho9 : Owns w9 66 3 (.slice (some ⟨gn, 0, none⟩) (((d.ws.take j).filter (fun x => !decide (x.loc = ⟨1, k⟩))).length + 1) cap) ((d.ws.take (j + 1)).filter (fun x => !decide (x.loc = ⟨1, k⟩))).length (wrsV ((d.ws.take (j + 1)).filter (fun x => !decide (x.loc = ⟨1, k⟩)))) := by
            rw [HFIL.out, List.length_append, wrsV_snoc]; exact hown9
          have HO := Lib.hid ho9
          clear hz9 ho9 hown9 hgrow9 hat9
          go_wp2
          go_round
          case rel => exact ⟨j + 1, by omega, by go_num, HO.out, HZ.out, hb9⟩
          case measure => simp [intOf]; omega
      · have hloc : ¬ d.ws[j].loc = ⟨1, k⟩ := fun e => m1 ((lc_eq _ _).1 e).1
        have hfil : (d.ws.take (j + 1)).filter (fun x => !decide (x.loc = ⟨1, k⟩)) = (d.ws.take j).filter (fun x => !decide (x.loc = ⟨1, k⟩)) ++ [d.ws[j]] := by
          rw [List.take_succ_eq_append_getElem hlt, List.filter_append]; simp [hloc]
        have HFIL := Lib.hid hfil
        have hus : wrV d.ws[j] = [.int .i64 d.ws[j].loc.dev, .int .i64 d.ws[j].loc.pos, .string (bstr d.ws[j].text)] := by simp [wrV]
        have HUS := Lib.hid hus
        clear hfil hloc hus
        go_wp2_with fail
        go_quiet (fail)
        go_wp2_with (at_builtin; refine wpList_append_z (P := Try.prog) _ rfl _ _ 43 rfl 66 i0 _ 3 32 Try.underlying43 hi0 hz0 hz1 hz2 rfl (by decide) _ _ _ rfl ((hu.below ((Below.refl _ _).dN _)).alloc _) ⟨wr.heap.size, 0, none⟩ 1 1 [.int .i64 d.ws[j].loc.dev, .int .i64 d.ws[j].loc.pos, .string (bstr d.ws[j].text)] rfl rfl (World.news_of_block (Blk.new _ _ _)) (fun u hu => by simp at hu; rcases hu with rfl | rfl | rfl <;> rfl) (by decide) F1.out.1 F1.out.2 _ rfl ?_; intro gn cap w9 hown9 hgrow9 hat9 hlt9 hcap9)
        rw [← HUS.out] at hown9
        have hb9 : Below wA.heap.size wA w9 := ((hb.dN _).alloc hsz _).grown hgrow9 (by simp; omega) (fun k e => hz k e)
        have hz9 : ∀ q, zblock (.slice (some ⟨gn, 0, none⟩) (((d.ws.take j).filter (fun x => !decide (x.loc = ⟨1, k⟩))).length + 1) cap) = some q → wA.heap.size ≤ q := by
          intro q e
          rw [zblock_some hcap9] at e
          cases e
          rcases hat9 with e | e
          · exact hz _ e
          · simp at e; simp; omega
        have HZ := Lib.hid hz9
        have ho9 : Owns w9 66 3 (.slice (some ⟨gn, 0, none⟩) (((d.ws.take j).filter (fun x => !decide (x.loc = ⟨1, k⟩))).length + 1) cap) ((d.ws.take (j + 1)).filter (fun x => !decide (x.loc = ⟨1, k⟩))).length (wrsV ((d.ws.take (j + 1)).filter (fun x => !decide (x.loc = ⟨1, k⟩)))) := by
          rw [HFIL.out, List.length_append, wrsV_snoc]; exact hown9
        have HO := Lib.hid ho9
        clear hz9 ho9 hown9 hgrow9 hat9
        go_wp2
        go_round
        case rel => exact ⟨j + 1, by omega, by go_num, HO.out, HZ.out, hb9⟩
        case measure => simp [intOf]; omega
    · obtain rfl : j = d.ws.length := by omega
      rw [List.take_length] at hu
      have F2 := h2.cell2.2
      obtain ⟨U, C, rfl, _, _⟩ := hu.form
      have hset := h2.setWs _ _ hu
      have hg0 : G ≠ g := by have := h.lt (k := g) (.inl rfl); omega
      have hxs := hx2.far (p := ⟨g, 2, none⟩) hg0 (.slice U (d.ws.filter (fun x => !decide (x.loc = ⟨1, k⟩))).length C)
      obtain ⟨wB, hwB⟩ : ∃ x, wr.setCell ⟨g, 2, none⟩ (.slice U (d.ws.filter (fun x => !decide (x.loc = ⟨1, k⟩))).length C) = x := ⟨_, rfl⟩
      have HWB := Lib.hid hwB
      rw [hwB] at hset hxs
      have kB : Keep w.heap.size (fun k => k = g ∨ k = b0 ∨ k = b1) w wB := by
        rw [← hwB]
        exact (Keep.of_below (k1.trans (hb.mono hsz1))).setCell (p := ⟨g, 2, none⟩) (.inr (.inl rfl)) _
      have q1 : decide ((d.ws.length : Int) < (d.ws.length : Int)) = false := decide_eq_false (by omega)
      have hput := hset.put ⟨⟨1, k⟩, t⟩ (.inr rfl) k rfl
      have HP := Lib.hid hput
      obtain ⟨⟨n1, n2, n3, n4, z1⟩, ⟨m1, m2, m3, z2⟩, ⟨l1, l2, z3⟩, z4, z5⟩ := hset.apart
      obtain ⟨C0, C1, hg, hs, hl, r0, r1⟩ := hset.hx
      have hGb : G ≠ b1 := by have := h.lt (k := b1) (.inr (.inr (.inr (.inr (.inl rfl))))); omega
      have y0 := hg.cell 0
      have zz := hs.cell 1
      have x0 := hxs.cell 0
      have x1 := hxs.cell 1
      obtain ⟨T, tt⟩ : ∃ T, wB.cell? ⟨b1, k, none⟩ = some (.string T) := ⟨_, by rw [r1.cellAt k (by show k < d.s1.length * 1; omega), secV_get _ _ (by show k < d.s1.length; omega)]⟩
      have ff := r1.frozenAt k
      simp at y0 zz x0 x1
      clear hu h2 hset hput hwB hg hs hl r0 r1 hxs
      go_wp2_with fail
      rw [HWB.out]
      go_region_held3 (fun w' => w'.cell? ⟨g, 0, none⟩ = some (.slice (some ⟨sb, 0, none⟩) 2 2) ∧ w'.cell? ⟨G, 0, none⟩ = some (.int .i64 1) ∧ w'.cell? ⟨G, 1, none⟩ = some (.int .i64 k) ∧ w'.cell? ⟨sb, 1, none⟩ = some (.slice (some ⟨b1, 0, none⟩) d.s1.length C1))
        (first | exact ⟨y0, x0, x1, zz⟩ | exact ⟨cell_far y0 (by exact n4) _, cell_far x0 (by exact hGb) _, cell_far x1 (by exact hGb) _, cell_far zz (by exact m3) _⟩ | go_keep)
        (fail)
      go_wp2
      go_ret
      exact ⟨rfl, ⟨_, HP.out.drew, fun k e => Nat.le_trans hsz1 (hz k e)⟩, (kB.setCell (p := ⟨b1, k, none⟩) (.inr (by exact .inr (.inr rfl))) _).drew⟩

end Go.Proofs.Ytmlakbdigbpmaaa
