/- The reference's devices: contracts of Write, Crash, Flush. -/
import Derived.Test.YtmlakbdigbpmaaaRv2
namespace Go.Proofs.Ytmlakbdigbpmaaa
open Go.RowKit
set_option linter.unusedSimpArgs false
set_option linter.unnecessarySimpa false
set_option linter.unusedVariables false

theorem rwr_info : (Try.prog.info? 66).map (fun i => (i.zero, i.size, i.bytes)) = some (some (.agg #[.int .i64 0, .int .i64 0, .string ⟨#[]⟩]), 3, 32) := by kernel_rfl

set_option maxHeartbeats 2000000 in
theorem rwrite_ok (g sb gb b0 b1 : Nat) (v : Value) (d : Dv) (l : Lc) (s : List UInt8) (he : Hid (mayE d l s = 0)) (hn : d.ws.length ≤ 100000) (w : World) (h : RvAt w g sb gb b0 b1 v d) :
    Calls Try.prog 26 #[.pointer (some ⟨g, 0, none⟩), .agg #[.int .i64 l.dev, .int .i64 l.pos], .string (bstr s)] w fun e w' => (∃ v', e = .returned (.int .i64 0) ∧ RvAt w' g sb gb b0 b1 v' { d with ws := d.ws ++ [⟨l, s⟩] } ∧ (∀ k, zblock v' = some k → zblock v = some k ∨ w.heap.size ≤ k)) ∧ Keep w.heap.size (fun k => k = g ∨ zblock v = some k) w w' := by
  go_enter Try.func26, Try.ntmps26
  go_wp2_with fail
  obtain ⟨G, hG⟩ : ∃ g, w.heap.size = g := ⟨_, rfl⟩
  obtain ⟨w0, hw0⟩ : ∃ x, w.alloc (.cells #[.int .i64 l.dev, .int .i64 l.pos] 29) = x := ⟨_, rfl⟩
  have bx : Below w.heap.size w w0 := by rw [← hw0]; exact (Below.refl _ _).alloc (Nat.le_refl _) _
  have hx : Blk w0 G 29 #[.int .i64 l.dev, .int .i64 l.pos] := by rw [← hw0, ← hG]; exact Blk.new _ _ _
  rw [hw0]
  try rw [hG]
  have h0 := h.below bx
  refine (rwrong_to he.out g sb gb b0 b1 v w0 h0).mono ?_
  rintro e w1 ⟨rfl, c1⟩
  have h1 := h0.below c1
  have hx1 := hx.below c1 hx.lt
  have k1 := bx.trans (c1.mono bx.size)
  obtain ⟨C0, C1, hg1, hs1, hl1, r0, r1⟩ := h1.hx
  have y0 := hg1.cell 2
  have y1 := hx1.cell 0
  have y2 := hx1.cell 1
  simp at y0 y1 y2
  have a0 := fun o => (hg1.alloc o).cell 2
  have a1 := fun o => (hx1.alloc o).cell 0
  have a2 := fun o => (hx1.alloc o).cell 1
  simp at a0 a1 a2
  obtain ⟨i0, hi0, hz0, hz1, hz2⟩ := info_parts rwr_info
  have F1 := Lib.hid (bounds_100k hn 32 (by decide))
  have AP := Lib.hid h1.apart
  have Z := Lib.hid h1.apart.1.2.2.2.2
  have HS := Lib.hid k1.size
  go_wp2_with fail
  go_region_law (first
    | (refine step_append_z _ (by rfl) _ _ _ (by rfl) 66 i0 _ 3 32 (by kernel_rfl) hi0 hz0 hz1 hz2 rfl (by decide) v d.ws.length (wrsV d.ws) rfl (Owns.drew (h1.hw.alloc _)) ⟨w1.heap.size, 0, none⟩ 1 1 (wrV ⟨l, s⟩) rfl rfl (World.news_of_block (Blk.drew (Blk.new w1 _ _))) (fun u hu => by simp [wrV] at hu; rcases hu with rfl | rfl | rfl <;> rfl) (by decide) F1.out.1 F1.out.2 _ rfl ?_; intro gn cap w9 hown9 hgrow9 hat9 hlt9 hcap9; have hb9 := (Blk.drew (hg1.alloc _)).grown hgrow9 (fun e => Z.out e.symm); have q0 := hb9.cell 2; have f0 := hb9.frozen 2; simp at q0))
  all_goals
    have kk : Keep w.heap.size (fun k => k = g ∨ zblock v = some k) w w9 := ((Keep.of_below k1).alloc k1.size _).drew.grown hgrow9 (fun k hk _ => .inr hk) (by simp; have := k1.size; omega)
    obtain ⟨⟨n1, n2, n3, n4, z1⟩, ⟨_, _, _, z2⟩, ⟨_, _, z3⟩, z4, z5⟩ := AP.out
    have hsz := HS.out
    have hat : ∀ k, gn = k → zblock v = some k ∨ w.heap.size ≤ k := by
      rintro k rfl
      rcases hat9 with e | e
      · exact .inl e
      · right; simp at e; omega
    go_wp2
    go_ret
    refine ⟨⟨.slice (some ⟨gn, 0, none⟩) (d.ws.length + 1) cap, rfl, ⟨⟨C0, C1, ?_, ?_, ?_, ?_, ?_⟩, ?_, h1.ne⟩, ?_⟩, kk.setCell (p := ⟨g, 2, none⟩) (.inr (.inl rfl)) _⟩
    · have := hb9.set_ 2 (.slice (some ⟨gn, 0, none⟩) (d.ws.length + 1) cap)
      simpa using this
    · exact ((Blk.drew (hs1.alloc _)).grown hgrow9 (fun e => z2 e.symm)).far (p := ⟨g, 2, none⟩) (fun e => n1 e.symm) _
    · exact ((Blk.drew (hl1.alloc _)).grown hgrow9 (fun e => z3 e.symm)).far (p := ⟨g, 2, none⟩) (fun e => n2 e.symm) _
    · exact row_set (row_grown ((r0.alloc _).drew) hgrow9 (fun k e => by cases e; exact z4)) (by intro e; cases e; exact n3 rfl) _
    · exact row_set (row_grown ((r1.alloc _).drew) hgrow9 (fun k e => by cases e; exact z5)) (by intro e; cases e; exact n4 rfl) _
    · have o1 : Owns w9 66 3 (.slice (some ⟨gn, 0, none⟩) (d.ws.length + 1) cap) (d.ws ++ [(⟨l, s⟩ : Wr)]).length (wrsV (d.ws ++ [(⟨l, s⟩ : Wr)])) := by rw [wrsV_snoc, List.length_append]; exact hown9
      exact o1.set (o1.ne hb9 (by decide)) _
    · intro k hk
      rw [zblock_some hcap9] at hk
      exact hat k (by simpa using hk)

theorem rwrite_bad {e0 : Int} (g sb gb b0 b1 : Nat) (v : Value) (d : Dv) (l : Lc) (s : List UInt8) (he : Hid (mayE d l s = e0)) (hz : (e0 == 0) = false) (w : World) (h : RvAt w g sb gb b0 b1 v d) :
    Calls Try.prog 26 #[.pointer (some ⟨g, 0, none⟩), .agg #[.int .i64 l.dev, .int .i64 l.pos], .string (bstr s)] w fun e w' => e = .returned (.int .i64 e0) ∧ Below w.heap.size w w' := by
  go_enter Try.func26, Try.ntmps26
  go_wp2_with fail
  obtain ⟨G, hG⟩ : ∃ g, w.heap.size = g := ⟨_, rfl⟩
  obtain ⟨w0, hw0⟩ : ∃ x, w.alloc (.cells #[.int .i64 l.dev, .int .i64 l.pos] 29) = x := ⟨_, rfl⟩
  have bx : Below w.heap.size w w0 := by rw [← hw0]; exact (Below.refl _ _).alloc (Nat.le_refl _) _
  rw [hw0]
  try rw [hG]
  refine (rwrong_to he.out g sb gb b0 b1 v w0 (h.below bx)).mono ?_
  rintro e w1 ⟨rfl, c1⟩
  go_wp2
  go_ret
  exact ⟨rfl, bx.trans (c1.mono bx.size)⟩

theorem RvAt.put {w : World} {g sb gb b0 b1 : Nat} {v : Value} {d : Dv} (h : RvAt w g sb gb b0 b1 v d) (x : Wr) (h01 : x.loc.dev = 0 ∨ x.loc.dev = 1) (k : Nat) (hk : x.loc.pos = k) : RvAt (w.setCell ⟨if x.loc.dev = 0 then b0 else b1, k, none⟩ (.string (bstr x.text))) g sb gb b0 b1 v (d.put x) := by
  obtain ⟨⟨n1, n2, n3, n4, z1⟩, ⟨m1, m2, m3, z2⟩, ⟨l1, l2, z3⟩, z4, z5⟩ := h.apart
  obtain ⟨C0, C1, hg, hs, hl, r0, r1⟩ := h.hx
  have ne := h.ne
  obtain ⟨⟨dev, pos⟩, t⟩ := x
  simp only at h01 hk ⊢
  subst hk
  rcases h01 with rfl | rfl
  · simp only [if_true]
    refine ⟨⟨C0, C1, ?_, ?_, ?_, ?_, ?_⟩, ?_, ne⟩
    · simpa [Dv.put] using hg.far (p := ⟨b0, k, none⟩) n3 (.string (bstr t))
    · simpa [Dv.put] using hs.far (p := ⟨b0, k, none⟩) m2 (.string (bstr t))
    · simpa [Dv.put] using hl.far (p := ⟨b0, k, none⟩) l1 (.string (bstr t))
    · have := (r0.stored k (.string (bstr t))).1
      rw [secV_set] at this
      simpa [Dv.put] using this
    · simpa [Dv.put] using row_set (i := k) (g := b0) r1 (by intro e; cases e; exact ne rfl) (.string (bstr t))
    · simpa [Dv.put] using h.hw.set (i := k) z4 (.string (bstr t))
  · rw [if_neg (by decide)]
    refine ⟨⟨C0, C1, ?_, ?_, ?_, ?_, ?_⟩, ?_, ne⟩
    · simpa [Dv.put] using hg.far (p := ⟨b1, k, none⟩) n4 (.string (bstr t))
    · simpa [Dv.put] using hs.far (p := ⟨b1, k, none⟩) m3 (.string (bstr t))
    · simpa [Dv.put] using hl.far (p := ⟨b1, k, none⟩) l2 (.string (bstr t))
    · simpa [Dv.put] using row_set (i := k) (g := b1) r0 (by intro e; cases e; exact ne rfl) (.string (bstr t))
    · have := (r1.stored k (.string (bstr t))).1
      rw [secV_set] at this
      simpa [Dv.put] using this
    · simpa [Dv.put] using h.hw.set (i := k) z5 (.string (bstr t))

set_option maxRecDepth 100000 in
set_option maxHeartbeats 4000000 in
theorem rcrash_any (g sb gb b0 b1 : Nat) (v : Value) (d : Dv) (A : Option Addr) (c : Nat) (kl : List Bool) (hok : d.ok) (hn : d.ws.length ≤ 100000) (w : World) (h : RvAt w g sb gb b0 b1 v d)
    (hk : BoolsAt (fun k => k ≠ b0 ∧ k ≠ b1) w A kl) :
    Calls Try.prog 28 #[.pointer (some ⟨g, 0, none⟩), .slice A kl.length c] w fun e w' => e = .returned (.int .i64 0) ∧ RvAt w' g sb gb b0 b1 (.slice none 0 0) (d.crash kl) ∧ Keep w.heap.size (fun k => k = g ∨ k = b0 ∨ k = b1) w w' := by
  obtain ⟨A', c', rfl, _, _⟩ := h.form
  go_enter Try.func28, Try.ntmps28
  go_wp2_with fail
  go_loopw [5] (fun i wr => ∃ j : Nat, j ≤ d.ws.length ∧ i = .int .i64 j ∧ RvAt wr g sb gb b0 b1 (.slice A' d.ws.length c') (d.settle (kpB kl) j) ∧ Keep w.heap.size (fun k => k = b0 ∨ k = b1) w wr) (fun i _ => d.ws.length - (intOf i).toNat)
  case atStart => exact ⟨0, by omega, rfl, h, Keep.refl _ _ _⟩
  case round =>
    obtain ⟨j, hj, rfl, hd, kw⟩ := hrel
    have Y2 := hd.cell2.1
    by_cases hlt : j < d.ws.length
    · have ho := hd.hw
      rw [Dv.settle_ws] at ho
      have ho := ho.row (by omega)
      obtain ⟨gr, rfl⟩ : ∃ gr, A' = some ⟨gr, 0, none⟩ := by
        rcases ho.2 with ⟨_, h0⟩ | ⟨gr, cap, cur, e, _⟩
        · omega
        · simp at e; exact ⟨gr, e.1⟩
      obtain ⟨p1, p2, p3⟩ := hok.ws _ (List.getElem_mem hlt)
      have hset : d.settle (kpB kl) (j + 1) = if kpB kl j then (d.settle (kpB kl) j).put d.ws[j] else d.settle (kpB kl) j := by
        rw [Dv.settle, List.getElem?_eq_getElem hlt]
      obtain ⟨bk, hbk⟩ : ∃ b, kpB kl j = b := ⟨_, rfl⟩
      rw [hbk] at hset
      have HSET := Lib.hid hset
      have HBK := Lib.hid hbk
      have q1 : decide ((j : Int) < (d.ws.length : Int)) = true := decide_eq_true (by omega)
      clear hset hbk
      cases bk
      · by_cases t3 : j < kl.length
        · have q3 : decide ((j : Int) < (kl.length : Int)) = true := decide_eq_true (by omega)
          obtain ⟨ad, rfl, e1, ⟨e2, e3⟩, e4⟩ := hk j t3
          have eb : kl[j] = false := by have := HBK.out; simpa [kpB, t3] using this
          rw [eb, ← kw.cell (by unfold Addr.add; split <;> exact e1) (by unfold Addr.add; split <;> (rintro (e | e); exact e2 e; exact e3 e))] at e4
          clear eb
          go_wp2
          go_round
          case rel => exact ⟨j + 1, by omega, by go_num, by rw [HSET.out]; exact hd, kw⟩
          case measure => simp [intOf]; omega
        · have q3 : decide ((j : Int) < (kl.length : Int)) = false := decide_eq_false (by omega)
          go_wp2
          go_round
          case rel => exact ⟨j + 1, by omega, by go_num, by rw [HSET.out]; exact hd, kw⟩
          case measure => simp [intOf]; omega
      · have t3 : j < kl.length := by
          have := HBK.out
          unfold kpB at this
          rcases Nat.lt_or_ge j kl.length with h1 | h1
          · exact h1
          · rw [List.getElem?_eq_none h1] at this; cases this
        have q3 : decide ((j : Int) < (kl.length : Int)) = true := decide_eq_true (by omega)
        obtain ⟨ad, rfl, e1, ⟨e2, e3⟩, e4⟩ := hk j t3
        have eb : kl[j] = true := by have := HBK.out; simpa [kpB, t3] using this
        rw [eb, ← kw.cell (by unfold Addr.add; split <;> exact e1) (by unfold Addr.add; split <;> (rintro (e | e); exact e2 e; exact e3 e))] at e4
        clear eb
        obtain ⟨g1, g2, g3⟩ := wrsV_get d.ws j hlt
        have w0' := ho.cellAt (j * 3) (by omega)
        have w1' := ho.cellAt (j * 3 + 1) (by omega)
        have w2' := ho.cellAt (j * 3 + 2) (by omega)
        rw [g1] at w0'
        rw [g2] at w1'
        rw [g3] at w2'
        obtain ⟨k, hkp⟩ : ∃ k : Nat, d.ws[j].loc.pos = k := ⟨d.ws[j].loc.pos.toNat, by omega⟩
        have h01 : d.ws[j].loc.dev = 0 ∨ d.ws[j].loc.dev = 1 := by simpa [isB] using p1
        have hput := hd.put d.ws[j] h01 k hkp
        obtain ⟨⟨n1, n2, n3, n4, z1⟩, ⟨m1, m2, m3, z2⟩, ⟨l1, l2, z3⟩, z4, z5⟩ := hd.apart
        have hgr : gr ≠ b0 ∧ gr ≠ b1 := by
          have hz := hd.hw.zb (by rw [Dv.settle_ws]; omega)
          rw [hz] at z4 z5
          exact ⟨fun e => z4 (by rw [← e]; rfl), fun e => z5 (by rw [← e]; rfl)⟩
        obtain ⟨hgr0, hgr1⟩ := hgr
        obtain ⟨C0, C1, hg, hs, hl, r0, r1⟩ := hd.hx
        have y0 := hg.cell 0
        simp at y0
        rw [hkp] at w1'
        have hl0 := (Dv.settle_len d (kpB kl) j).1
        have hl1 := (Dv.settle_len d (kpB kl) j).2
        clear g1 g2 g3 p1 p2
        rcases h01 with e01 | e01
        · rw [e01] at w0' p3
          rw [if_pos e01] at hput
          have HP := Lib.hid hput
          have hkl : k < d.s0.length := by simp [Dv.sec] at p3; omega
          have hkI : (k : Int) < (d.settle (kpB kl) j).s0.length := by omega
          have hk0 : (0 : Int) ≤ k := by omega
          have zz := hs.cell 0
          obtain ⟨T, tt⟩ : ∃ T, wr.cell? ⟨b0, k, none⟩ = some (.string T) := ⟨_, by rw [r0.cellAt k (by omega), secV_get _ _ (by omega)]⟩
          have ff := r0.frozenAt k
          simp at zz
          clear hput hkp e01 p3 hg hs hl r0 r1 ho hl0 hl1
          go_wp2_with fail
          go_region_held3 (fun w' => w'.cell? ⟨g, 0, none⟩ = some (.slice (some ⟨sb, 0, none⟩) 2 2) ∧ w'.cell? ⟨g, 2, none⟩ = some (.slice (some ⟨gr, 0, none⟩) d.ws.length c') ∧ w'.cell? ⟨gr, j * 3, none⟩ = some (.int .i64 0) ∧ w'.cell? ⟨gr, j * 3 + 1, none⟩ = some (.int .i64 k) ∧ w'.cell? ⟨gr, j * 3 + 2, none⟩ = some (.string (bstr d.ws[j].text)) ∧ w'.cell? ⟨sb, 0, none⟩ = some (.slice (some ⟨b0, 0, none⟩) (d.settle (kpB kl) j).s0.length C0))
            (first | exact ⟨y0, Y2, w0', w1', w2', zz⟩ | exact ⟨cell_far y0 (by exact n3) _, cell_far Y2 (by exact n3) _, cell_far w0' (by exact hgr0) _, cell_far w1' (by exact hgr0) _, cell_far w2' (by exact hgr0) _, cell_far zz (by exact m2) _⟩ | go_keep)
            (fail)
          go_wp2
          go_round
          case rel => exact ⟨j + 1, by omega, by go_num, by rw [HSET.out]; exact HP.out.drew, (kw.setCell (p := ⟨b0, k, none⟩) (.inr (by left; rfl)) _).drew⟩
          case measure => simp [intOf]; omega
        · rw [e01] at w0' p3
          rw [if_neg (by rw [e01]; decide)] at hput
          have HP := Lib.hid hput
          have hkl : k < d.s1.length := by simp [Dv.sec] at p3; omega
          have hkI : (k : Int) < (d.settle (kpB kl) j).s1.length := by omega
          have hk0 : (0 : Int) ≤ k := by omega
          have zz := hs.cell 1
          obtain ⟨T, tt⟩ : ∃ T, wr.cell? ⟨b1, k, none⟩ = some (.string T) := ⟨_, by rw [r1.cellAt k (by omega), secV_get _ _ (by omega)]⟩
          have ff := r1.frozenAt k
          simp at zz
          clear hput hkp e01 p3 hg hs hl r0 r1 ho hl0 hl1
          go_wp2_with fail
          go_region_held3 (fun w' => w'.cell? ⟨g, 0, none⟩ = some (.slice (some ⟨sb, 0, none⟩) 2 2) ∧ w'.cell? ⟨g, 2, none⟩ = some (.slice (some ⟨gr, 0, none⟩) d.ws.length c') ∧ w'.cell? ⟨gr, j * 3, none⟩ = some (.int .i64 1) ∧ w'.cell? ⟨gr, j * 3 + 1, none⟩ = some (.int .i64 k) ∧ w'.cell? ⟨gr, j * 3 + 2, none⟩ = some (.string (bstr d.ws[j].text)) ∧ w'.cell? ⟨sb, 1, none⟩ = some (.slice (some ⟨b1, 0, none⟩) (d.settle (kpB kl) j).s1.length C1))
            (first | exact ⟨y0, Y2, w0', w1', w2', zz⟩ | exact ⟨cell_far y0 (by exact n4) _, cell_far Y2 (by exact n4) _, cell_far w0' (by exact hgr1) _, cell_far w1' (by exact hgr1) _, cell_far w2' (by exact hgr1) _, cell_far zz (by exact m3) _⟩ | go_keep)
            (fail)
          go_wp2
          go_round
          case rel => exact ⟨j + 1, by omega, by go_num, by rw [HSET.out]; exact HP.out.drew, (kw.setCell (p := ⟨b1, k, none⟩) (.inr (by right; rfl)) _).drew⟩
          case measure => simp [intOf]; omega
    · obtain rfl : j = d.ws.length := by omega
      have F2 := hd.cell2.2
      have HN := Lib.hid (hd.setWs (.slice none 0 0) [] (Owns.nil _ _ _))
      go_wp2
      go_ret
      exact ⟨rfl, HN.out, (kw.mono (Nat.le_refl _) (fun _ _ h => .inr h)).setCell (p := ⟨g, 2, none⟩) (.inr (.inl rfl)) _⟩

theorem settle_true (d : Dv) (kl : List Bool) (h : ∀ i, i < d.ws.length → kpB kl i = true) : ∀ n, n ≤ d.ws.length → d.settle (kpB kl) n = d.settle (fun _ => true) n
  | 0, _ => rfl
  | n + 1, hn => by
    have ih := settle_true d kl h n (by omega)
    unfold Dv.settle
    rw [h n (by omega), ih]
theorem flush_crash (d : Dv) : d.crash (List.replicate d.ws.length true) = d.flush := by
  unfold Dv.crash Dv.flush
  rw [settle_true d _ (fun i hi => by simp [kpB, hi]) _ (Nat.le_refl _)]

end Go.Proofs.Ytmlakbdigbpmaaa
