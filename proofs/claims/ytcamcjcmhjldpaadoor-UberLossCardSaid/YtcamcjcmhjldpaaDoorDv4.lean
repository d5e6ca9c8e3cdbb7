/- Package dev: Write: contracts. -/
import Derived.Test.YtcamcjcmhjldpaaDoorDv3
namespace Go.Proofs.YtcamcjcmhjldpaaDoor
open Go.RowKit
set_option linter.unusedSimpArgs false
set_option linter.unnecessarySimpa false
set_option linter.unusedVariables false

/-- the bytes of a row: append's bounds, hidden from the walk -/
theorem bounds_100k {n : Nat} (hn : n ≤ 100000) (sz : Nat) (hs : sz ≤ 1000000000) : n + 1 ≤ maxLen ∧ (n + 1) * sz ≤ 140737488355328 := by
  refine ⟨by unfold maxLen; omega, ?_⟩
  calc (n + 1) * sz ≤ 100001 * 1000000000 := Nat.mul_le_mul (by omega) hs
    _ ≤ 140737488355328 := by decide

set_option maxHeartbeats 2000000 in
theorem write_ok (g b0 b1 : Nat) (v : Value) (d : Dv) (l : Lc) (s : List UInt8) (he : Hid (mayE d l s = 0)) (hn : d.ws.length ≤ 100000) (w : World) (h : DvAt w g b0 b1 v d) :
    Calls Tryd.prog 40 #[.pointer (some ⟨g, 0, none⟩), .agg #[.int .i64 l.dev, .int .i64 l.pos], .string (bstr s)] w fun e w' => (∃ v', e = .returned (.int .i64 0) ∧ DvAt w' g b0 b1 v' { d with ws := d.ws ++ [⟨l, s⟩] } ∧ (∀ k, zblock v' = some k → zblock v = some k ∨ w.heap.size ≤ k)) ∧ Keep w.heap.size (fun k => k = g ∨ zblock v = some k) w w' := by
  go_enter Tryd.func40, Tryd.ntmps40
  go_wp2_with fail
  obtain ⟨G, hG⟩ : ∃ g, w.heap.size = g := ⟨_, rfl⟩
  obtain ⟨w0, hw0⟩ : ∃ x, w.alloc (.cells #[.int .i64 l.dev, .int .i64 l.pos] 51) = x := ⟨_, rfl⟩
  have bx : Below w.heap.size w w0 := by rw [← hw0]; exact (Below.refl _ _).alloc (Nat.le_refl _) _
  have hx : Blk w0 G 51 #[.int .i64 l.dev, .int .i64 l.pos] := by rw [← hw0, ← hG]; exact Blk.new _ _ _
  rw [hw0]
  try rw [hG]
  have h0 := h.below bx
  refine (may_to he.out g b0 b1 v w0 h0).mono ?_
  rintro e w1 ⟨rfl, c1⟩
  have h1 := h0.below c1
  have hx1 := hx.below c1 hx.lt
  have k1 := bx.trans (c1.mono bx.size)
  obtain ⟨C0, C1, hg1, r0, r1⟩ := h1.hx
  have y0 := hg1.cell 4
  have y1 := hx1.cell 0
  have y2 := hx1.cell 1
  simp at y0 y1 y2
  have a0 := fun o => (hg1.alloc o).cell 4
  have a1 := fun o => (hx1.alloc o).cell 0
  have a2 := fun o => (hx1.alloc o).cell 1
  simp at a0 a1 a2
  obtain ⟨i0, hi0, hz0, hz1, hz2⟩ := info_parts wr_info
  have F1 := Lib.hid (bounds_100k hn 32 (by decide))
  have Z := Lib.hid h1.zg
  have HS := Lib.hid k1.size
  go_wp2_with fail
  go_region_law (first
    | (refine step_append_z _ (by rfl) _ _ _ (by rfl) 82 i0 _ 3 32 (by kernel_rfl) hi0 hz0 hz1 hz2 rfl (by decide) v d.ws.length (wrsV d.ws) rfl (Owns.drew (h1.hw.alloc _)) ⟨w1.heap.size, 0, none⟩ 1 1 (wrV ⟨l, s⟩) rfl rfl (World.news_of_block (Blk.drew (Blk.new w1 _ _))) (fun u hu => by simp [wrV] at hu; rcases hu with rfl | rfl | rfl <;> rfl) (by decide) F1.out.1 F1.out.2 _ rfl ?_; intro gn cap w9 hown9 hgrow9 hat9 hlt9 hcap9; have hb9 := (Blk.drew (hg1.alloc _)).grown hgrow9 (fun e => Z.out e.symm); have q0 := hb9.cell 4; have f0 := hb9.frozen 4; simp at q0))
  all_goals
    have e0 : DvAt (w1.alloc (.cells #[.int .i64 l.dev, .int .i64 l.pos, .string (bstr s)] 82)).drew g b0 b1 v d := (h1.alloc _).drew
    have kk : Keep w.heap.size (fun k => k = g ∨ zblock v = some k) w w9 := ((Keep.of_below k1).alloc k1.size _).drew.grown hgrow9 (fun k hk _ => .inr hk) (by simp; have := k1.size; omega)
    have z0 := h1.z0
    have z1 := h1.z1
    have n0 := h1.ng0
    have n1 := h1.ng1
    have hsz := HS.out
    have hat : ∀ k, gn = k → zblock v = some k ∨ w.heap.size ≤ k := by
      rintro k rfl
      rcases hat9 with e | e
      · exact .inl e
      · right; simp at e; omega
    go_wp2
    go_ret
    have e9 := Owns.drew (w := w9) hown9
    refine ⟨⟨.slice (some ⟨gn, 0, none⟩) (d.ws.length + 1) cap, rfl, ⟨⟨C0, C1, ?_, ?_, ?_⟩, ?_, h1.ne⟩, ?_⟩, kk.setCell (p := ⟨g, 4, none⟩) (.inr (.inl rfl)) _⟩
    · have := hb9.set_ 4 (.slice (some ⟨gn, 0, none⟩) (d.ws.length + 1) cap)
      simpa using this
    · exact row_set (row_grown ((r0.alloc _).drew) hgrow9 (fun k e => by cases e; exact z0)) (by intro e; cases e; exact n0 rfl) _
    · exact row_set (row_grown ((r1.alloc _).drew) hgrow9 (fun k e => by cases e; exact z1)) (by intro e; cases e; exact n1 rfl) _
    · have o1 : Owns w9 82 3 (.slice (some ⟨gn, 0, none⟩) (d.ws.length + 1) cap) (d.ws ++ [(⟨l, s⟩ : Wr)]).length (wrsV (d.ws ++ [(⟨l, s⟩ : Wr)])) := by rw [wrsV_snoc, List.length_append]; exact hown9
      exact o1.set (o1.ne hb9 (by decide)) _
    · intro k hk
      rw [zblock_some hcap9] at hk
      exact hat k (by simpa using hk)

theorem write_bad {e0 : Int} (g b0 b1 : Nat) (v : Value) (d : Dv) (l : Lc) (s : List UInt8) (he : Hid (mayE d l s = e0)) (hz : (e0 == 0) = false) (w : World) (h : DvAt w g b0 b1 v d) :
    Calls Tryd.prog 40 #[.pointer (some ⟨g, 0, none⟩), .agg #[.int .i64 l.dev, .int .i64 l.pos], .string (bstr s)] w fun e w' => e = .returned (.int .i64 e0) ∧ Below w.heap.size w w' := by
  go_enter Tryd.func40, Tryd.ntmps40
  go_wp2_with fail
  obtain ⟨G, hG⟩ : ∃ g, w.heap.size = g := ⟨_, rfl⟩
  obtain ⟨w0, hw0⟩ : ∃ x, w.alloc (.cells #[.int .i64 l.dev, .int .i64 l.pos] 51) = x := ⟨_, rfl⟩
  have bx : Below w.heap.size w w0 := by rw [← hw0]; exact (Below.refl _ _).alloc (Nat.le_refl _) _
  rw [hw0]
  try rw [hG]
  refine (may_to he.out g b0 b1 v w0 (h.below bx)).mono ?_
  rintro e w1 ⟨rfl, c1⟩
  go_wp2
  go_ret
  exact ⟨rfl, bx.trans (c1.mono bx.size)⟩
theorem dwrite_nil (l : Lc) (s : List UInt8) (w : World) :
    Calls Tryd.prog 40 #[.pointer none, .agg #[.int .i64 l.dev, .int .i64 l.pos], .string (bstr s)] w fun e w' => e = .returned (.int .i64 1) ∧ Below w.heap.size w w' := by
  go_enter Tryd.func40, Tryd.ntmps40
  go_wp2_with fail
  obtain ⟨G, hG⟩ : ∃ g, w.heap.size = g := ⟨_, rfl⟩
  obtain ⟨w0, hw0⟩ : ∃ x, w.alloc (.cells #[.int .i64 l.dev, .int .i64 l.pos] 51) = x := ⟨_, rfl⟩
  have bx : Below w.heap.size w w0 := by rw [← hw0]; exact (Below.refl _ _).alloc (Nat.le_refl _) _
  rw [hw0]
  try rw [hG]
  refine (may_nil l s w0).mono ?_
  rintro e w1 ⟨rfl, c1⟩
  go_wp2
  go_ret
  exact ⟨rfl, bx.trans (c1.mono bx.size)⟩

end Go.Proofs.YtcamcjcmhjldpaaDoor
