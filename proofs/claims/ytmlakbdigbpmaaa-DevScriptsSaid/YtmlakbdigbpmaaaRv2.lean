/- The reference's devices: contracts of wrong and Read. -/
import Derived.Test.YtmlakbdigbpmaaaRv
namespace Go.Proofs.Ytmlakbdigbpmaaa
open Go.RowKit
set_option linter.unusedSimpArgs false
set_option linter.unnecessarySimpa false
set_option linter.unusedVariables false

set_option maxHeartbeats 4000000 in
theorem rwrong_any (g sb gb b0 b1 : Nat) (v : Value) (d : Dv) (l : Lc) (s : List UInt8) (w : World) (h : RvAt w g sb gb b0 b1 v d) :
    Calls Try.prog 33 #[.pointer (some ⟨g, 0, none⟩), .agg #[.int .i64 l.dev, .int .i64 l.pos], .string (bstr s)] w fun e w' => e = .returned (.int .i64 (mayE d l s)) ∧ Below w.heap.size w w' := by
  obtain ⟨G, hG⟩ : ∃ g, w.heap.size = g := ⟨_, rfl⟩
  obtain ⟨w0, hw0⟩ : ∃ x, w.alloc (.cells #[.int .i64 l.dev, .int .i64 l.pos] 29) = x := ⟨_, rfl⟩
  have bx : Below w.heap.size w w0 := by rw [← hw0]; exact (Below.refl _ _).alloc (Nat.le_refl _) _
  have hx : Blk w0 G 29 #[.int .i64 l.dev, .int .i64 l.pos] := by rw [← hw0, ← hG]; exact Blk.new _ _ _
  have h0 := h.below bx
  have em := may_of_has d l s
  have HW0 := Lib.hid hw0
  have HG := Lib.hid hG
  clear hw0 hG
  cases hh : hasB d l with
  | false =>
    rw [hh] at em
    simp at em
    rw [em]
    have HH := Lib.hid hh
    clear hh em
    go_enter Try.func33, Try.ntmps33
    go_wp2_with fail
    rw [HW0.out]
    try rw [HG.out]
    refine (ris_to HH.out g sb gb b0 b1 v w0 h0).mono ?_
    rintro e w1 ⟨rfl, c1⟩
    go_wp2
    go_ret
    exact ⟨rfl, bx.trans (c1.mono bx.size)⟩
  | true =>
    have h01 : isB l.dev = true := by unfold hasB at hh; simp at hh; exact hh.1
    have h01 : l.dev = 0 ∨ l.dev = 1 := by simpa [isB] using h01
    have HH := Lib.hid hh
    rw [hh] at em
    simp only [Bool.not_true, Bool.false_or] at em
    clear hh
    by_cases t3 : 1024 < s.length
    · have q3 : decide (1024 < (s.length : Int)) = true := decide_eq_true (by omega)
      rw [if_pos (by simpa using t3)] at em
      rw [em]
      clear em
      go_enter Try.func33, Try.ntmps33
      go_wp2_with fail
      rw [HW0.out]
      try rw [HG.out]
      refine (ris_to HH.out g sb gb b0 b1 v w0 h0).mono ?_
      rintro e w1 ⟨rfl, c1⟩
      go_wp2
      go_ret
      exact ⟨rfl, bx.trans (c1.mono bx.size)⟩
    · have q3 : decide (1024 < (s.length : Int)) = false := decide_eq_false (by omega)
      rw [if_neg (by simpa using t3)] at em
      obtain ⟨dev, pos⟩ := l
      simp only at h01 em HW0 hx HH ⊢
      rcases h01 with rfl | rfl
      · cases hgn : d.l0
        · rw [show Dv.gone d 0 = false by simp [Dv.gone, hgn]] at em
          simp at em
          rw [em]
          clear em
          go_enter Try.func33, Try.ntmps33
          go_wp2_with fail
          rw [HW0.out]
          try rw [HG.out]
          refine (ris_to HH.out g sb gb b0 b1 v w0 h0).mono ?_
          rintro e w1 ⟨rfl, c1⟩
          have hx1 := hx.below c1 hx.lt
          obtain ⟨c0, c1', hg, hs, hl, r0, r1⟩ := (h0.below c1).hx
          have x0 := hx1.cell 0
          have y1 := hg.cell 1
          have z0 := hl.cell 0
          simp at x0 y1 z0
          rw [hgn] at z0
          clear hg hs hl r0 r1
          go_wp2_with fail
          go_quiet (fail)
          go_wp2
          go_ret
          exact ⟨rfl, (bx.trans (c1.mono bx.size)).dN _⟩
        · rw [show Dv.gone d 0 = true by simp [Dv.gone, hgn]] at em
          simp at em
          rw [em]
          clear em
          go_enter Try.func33, Try.ntmps33
          go_wp2_with fail
          rw [HW0.out]
          try rw [HG.out]
          refine (ris_to HH.out g sb gb b0 b1 v w0 h0).mono ?_
          rintro e w1 ⟨rfl, c1⟩
          have hx1 := hx.below c1 hx.lt
          obtain ⟨c0, c1', hg, hs, hl, r0, r1⟩ := (h0.below c1).hx
          have x0 := hx1.cell 0
          have y1 := hg.cell 1
          have z0 := hl.cell 0
          simp at x0 y1 z0
          rw [hgn] at z0
          clear hg hs hl r0 r1
          go_wp2_with fail
          go_quiet (fail)
          go_wp2
          go_ret
          exact ⟨rfl, (bx.trans (c1.mono bx.size)).dN _⟩
      · cases hgn : d.l1
        · rw [show Dv.gone d 1 = false by simp [Dv.gone, hgn]] at em
          simp at em
          rw [em]
          clear em
          go_enter Try.func33, Try.ntmps33
          go_wp2_with fail
          rw [HW0.out]
          try rw [HG.out]
          refine (ris_to HH.out g sb gb b0 b1 v w0 h0).mono ?_
          rintro e w1 ⟨rfl, c1⟩
          have hx1 := hx.below c1 hx.lt
          obtain ⟨c0, c1', hg, hs, hl, r0, r1⟩ := (h0.below c1).hx
          have x0 := hx1.cell 0
          have y1 := hg.cell 1
          have z0 := hl.cell 1
          simp at x0 y1 z0
          rw [hgn] at z0
          clear hg hs hl r0 r1
          go_wp2_with fail
          go_quiet (fail)
          go_wp2
          go_ret
          exact ⟨rfl, (bx.trans (c1.mono bx.size)).dN _⟩
        · rw [show Dv.gone d 1 = true by simp [Dv.gone, hgn]] at em
          simp at em
          rw [em]
          clear em
          go_enter Try.func33, Try.ntmps33
          go_wp2_with fail
          rw [HW0.out]
          try rw [HG.out]
          refine (ris_to HH.out g sb gb b0 b1 v w0 h0).mono ?_
          rintro e w1 ⟨rfl, c1⟩
          have hx1 := hx.below c1 hx.lt
          obtain ⟨c0, c1', hg, hs, hl, r0, r1⟩ := (h0.below c1).hx
          have x0 := hx1.cell 0
          have y1 := hg.cell 1
          have z0 := hl.cell 1
          simp at x0 y1 z0
          rw [hgn] at z0
          clear hg hs hl r0 r1
          go_wp2_with fail
          go_quiet (fail)
          go_wp2
          go_ret
          exact ⟨rfl, (bx.trans (c1.mono bx.size)).dN _⟩
theorem rwrong_to {d : Dv} {l : Lc} {s : List UInt8} {e0 : Int} (he : mayE d l s = e0) (g sb gb b0 b1 : Nat) (v : Value) (w : World) (h : RvAt w g sb gb b0 b1 v d) :
    Calls Try.prog 33 #[.pointer (some ⟨g, 0, none⟩), .agg #[.int .i64 l.dev, .int .i64 l.pos], .string (bstr s)] w fun e w' => e = .returned (.int .i64 e0) ∧ Below w.heap.size w w' := by subst he; exact rwrong_any g sb gb b0 b1 v d l s w h

set_option maxHeartbeats 4000000 in
theorem rread_ok0 (g sb gb b0 b1 : Nat) (v : Value) (d : Dv) (k : Nat) (he : Hid (mayE d ⟨0, k⟩ [] = 0)) (hn : d.ws.length ≤ 100000) (w : World) (h : RvAt w g sb gb b0 b1 v d) :
    Calls Try.prog 17 #[.pointer (some ⟨g, 0, none⟩), .agg #[.int .i64 0, .int .i64 k]] w fun e w' => e = .returned (.tuple #[.string (bstr (d.look ⟨0, k⟩)), .int .i64 0]) ∧ Below w.heap.size w w' := by
  obtain ⟨A, c, rfl, _, _⟩ := h.form
  have hk : k < d.s0.length := by have := (may_zero he.out).2.2; simp [Dv.sec] at this; omega
  have hkl : (k : Int) < d.s0.length := by omega
  have hk0 : (0 : Int) ≤ k := by omega
  go_enter Try.func17, Try.ntmps17
  go_wp2_with fail
  obtain ⟨G, hG⟩ : ∃ g, w.heap.size = g := ⟨_, rfl⟩
  obtain ⟨w0, hw0⟩ : ∃ x, w.alloc (.cells #[.int .i64 0, .int .i64 k] 29) = x := ⟨_, rfl⟩
  have bx : Below w.heap.size w w0 := by rw [← hw0]; exact (Below.refl _ _).alloc (Nat.le_refl _) _
  have hx : Blk w0 G 29 #[.int .i64 0, .int .i64 k] := by rw [← hw0, ← hG]; exact Blk.new _ _ _
  rw [hw0]
  try rw [hG]
  refine (rwrong_to he.out g sb gb b0 b1 _ w0 (h.below bx)).mono ?_
  rintro e w1 ⟨rfl, c1⟩
  have k1 := bx.trans (c1.mono bx.size)
  have hx1 := hx.below c1 hx.lt
  have h1 := h.below k1
  obtain ⟨c0, c1', hg, hs, hl, r0, r1⟩ := h1.hx
  have x0 := hx1.cell 0
  have x1 := hx1.cell 1
  have y0 := hg.cell 0
  have y2 := hg.cell 2
  have z0 := hs.cell 0
  have s0 := r0.cellAt k (by omega)
  rw [secV_get _ _ hk] at s0
  simp at x0 x1 y0 y2 z0
  clear hg hs hl r0 r1
  go_wp2_with fail
  go_quiet (fail)
  go_wp2_with fail
  go_loopw [7, 8] (fun u i wr => ∃ j : Nat, j ≤ d.ws.length ∧ i = .int .i64 j ∧ u = .string (bstr ((d.ws.take j).foldl (fun s x => if x.loc = ⟨0, k⟩ then x.text else s) d.s0[k])) ∧ Below w.heap.size w wr ∧ Below w1.heap.size w1 wr) (fun _ i _ => d.ws.length - (intOf i).toNat)
  case atStart => exact ⟨0, by omega, rfl, rfl, k1.dN _, (Below.refl _ _).dN _⟩
  case round =>
    obtain ⟨j, hj, rfl, rfl, hb, hb1⟩ := hrel
    have hx2 := hx1.below hb1 hx1.lt
    have h2 := h1.below hb1
    have X0 := hx2.cell 0
    have X1 := hx2.cell 1
    have Y2 := h2.cell2.1
    simp at X0 X1
    by_cases hlt : j < d.ws.length
    · have ho := h2.hw.row (by omega)
      obtain ⟨gr, rfl⟩ : ∃ gr, A = some ⟨gr, 0, none⟩ := by
        rcases ho.2 with ⟨_, h0⟩ | ⟨gr, cap, cur, e, _⟩
        · omega
        · simp at e; exact ⟨gr, e.1⟩
      obtain ⟨g1, g2, g3⟩ := wrsV_get d.ws j hlt
      have w0' := ho.cellAt (j * 3) (by omega)
      have w1' := ho.cellAt (j * 3 + 1) (by omega)
      have w2' := ho.cellAt (j * 3 + 2) (by omega)
      rw [g1] at w0'
      rw [g2] at w1'
      rw [g3] at w2'
      have hfs : (d.ws.take (j + 1)).foldl (fun s x => if x.loc = ⟨0, k⟩ then x.text else s) d.s0[k] = if d.ws[j].loc = ⟨0, k⟩ then d.ws[j].text else (d.ws.take j).foldl (fun s x => if x.loc = ⟨0, k⟩ then x.text else s) d.s0[k] := by
        rw [List.take_succ_eq_append_getElem hlt, List.foldl_append]; rfl
      have HFS := Lib.hid hfs
      clear g1 g2 g3 ho hfs
      by_cases m1 : d.ws[j].loc.dev = 0
      · by_cases m2 : d.ws[j].loc.pos = (k : Int)
        · have hloc : Hid (d.ws[j].loc = ⟨0, k⟩) := Lib.hid ((lc_eq _ _).2 ⟨m1, m2⟩)
          go_wp2_with fail
          go_quiet (fail)
          go_wp2
          go_round
          case rel => exact ⟨j + 1, by omega, by go_num, by rw [HFS.out, if_pos hloc.out], hb.dN _, hb1.dN _⟩
          case measure => simp [intOf]; omega
        · have hloc : Hid (¬ d.ws[j].loc = ⟨0, k⟩) := Lib.hid (fun e => m2 ((lc_eq _ _).1 e).2)
          go_wp2_with fail
          go_quiet (fail)
          go_wp2
          go_round
          case rel => exact ⟨j + 1, by omega, by go_num, by rw [HFS.out, if_neg hloc.out], hb.dN _, hb1.dN _⟩
          case measure => simp [intOf]; omega
      · have hloc : Hid (¬ d.ws[j].loc = ⟨0, k⟩) := Lib.hid (fun e => m1 ((lc_eq _ _).1 e).1)
        go_wp2_with fail
        go_quiet (fail)
        go_wp2
        go_round
        case rel => exact ⟨j + 1, by omega, by go_num, by rw [HFS.out, if_neg hloc.out], hb.dN _, hb1.dN _⟩
        case measure => simp [intOf]; omega
    · obtain rfl : j = d.ws.length := by omega
      have hlk : Hid ((d.ws.take d.ws.length).foldl (fun s x => if x.loc = ⟨0, k⟩ then x.text else s) d.s0[k] = d.look ⟨0, k⟩) := by
        refine Lib.hid ?_
        rw [List.take_length]
        unfold Dv.look
        simp [Dv.sec, hk]
      go_wp2
      go_ret2
      exact ⟨by rw [hlk.out]; rfl, hb⟩

set_option maxHeartbeats 4000000 in
theorem rread_ok1 (g sb gb b0 b1 : Nat) (v : Value) (d : Dv) (k : Nat) (he : Hid (mayE d ⟨1, k⟩ [] = 0)) (hn : d.ws.length ≤ 100000) (w : World) (h : RvAt w g sb gb b0 b1 v d) :
    Calls Try.prog 17 #[.pointer (some ⟨g, 0, none⟩), .agg #[.int .i64 1, .int .i64 k]] w fun e w' => e = .returned (.tuple #[.string (bstr (d.look ⟨1, k⟩)), .int .i64 0]) ∧ Below w.heap.size w w' := by
  obtain ⟨A, c, rfl, _, _⟩ := h.form
  have hk : k < d.s1.length := by have := (may_zero he.out).2.2; simp [Dv.sec] at this; omega
  have hkl : (k : Int) < d.s1.length := by omega
  have hk0 : (0 : Int) ≤ k := by omega
  go_enter Try.func17, Try.ntmps17
  go_wp2_with fail
  obtain ⟨G, hG⟩ : ∃ g, w.heap.size = g := ⟨_, rfl⟩
  obtain ⟨w0, hw0⟩ : ∃ x, w.alloc (.cells #[.int .i64 1, .int .i64 k] 29) = x := ⟨_, rfl⟩
  have bx : Below w.heap.size w w0 := by rw [← hw0]; exact (Below.refl _ _).alloc (Nat.le_refl _) _
  have hx : Blk w0 G 29 #[.int .i64 1, .int .i64 k] := by rw [← hw0, ← hG]; exact Blk.new _ _ _
  rw [hw0]
  try rw [hG]
  refine (rwrong_to he.out g sb gb b0 b1 _ w0 (h.below bx)).mono ?_
  rintro e w1 ⟨rfl, c1⟩
  have k1 := bx.trans (c1.mono bx.size)
  have hx1 := hx.below c1 hx.lt
  have h1 := h.below k1
  obtain ⟨c0, c1', hg, hs, hl, r0, r1⟩ := h1.hx
  have x0 := hx1.cell 0
  have x1 := hx1.cell 1
  have y0 := hg.cell 0
  have y2 := hg.cell 2
  have z0 := hs.cell 1
  have s0 := r1.cellAt k (by omega)
  rw [secV_get _ _ hk] at s0
  simp at x0 x1 y0 y2 z0
  clear hg hs hl r0 r1
  go_wp2_with fail
  go_quiet (fail)
  go_wp2_with fail
  go_loopw [7, 8] (fun u i wr => ∃ j : Nat, j ≤ d.ws.length ∧ i = .int .i64 j ∧ u = .string (bstr ((d.ws.take j).foldl (fun s x => if x.loc = ⟨1, k⟩ then x.text else s) d.s1[k])) ∧ Below w.heap.size w wr ∧ Below w1.heap.size w1 wr) (fun _ i _ => d.ws.length - (intOf i).toNat)
  case atStart => exact ⟨0, by omega, rfl, rfl, k1.dN _, (Below.refl _ _).dN _⟩
  case round =>
    obtain ⟨j, hj, rfl, rfl, hb, hb1⟩ := hrel
    have hx2 := hx1.below hb1 hx1.lt
    have h2 := h1.below hb1
    have X0 := hx2.cell 0
    have X1 := hx2.cell 1
    have Y2 := h2.cell2.1
    simp at X0 X1
    by_cases hlt : j < d.ws.length
    · have ho := h2.hw.row (by omega)
      obtain ⟨gr, rfl⟩ : ∃ gr, A = some ⟨gr, 0, none⟩ := by
        rcases ho.2 with ⟨_, h0⟩ | ⟨gr, cap, cur, e, _⟩
        · omega
        · simp at e; exact ⟨gr, e.1⟩
      obtain ⟨g1, g2, g3⟩ := wrsV_get d.ws j hlt
      have w0' := ho.cellAt (j * 3) (by omega)
      have w1' := ho.cellAt (j * 3 + 1) (by omega)
      have w2' := ho.cellAt (j * 3 + 2) (by omega)
      rw [g1] at w0'
      rw [g2] at w1'
      rw [g3] at w2'
      have hfs : (d.ws.take (j + 1)).foldl (fun s x => if x.loc = ⟨1, k⟩ then x.text else s) d.s1[k] = if d.ws[j].loc = ⟨1, k⟩ then d.ws[j].text else (d.ws.take j).foldl (fun s x => if x.loc = ⟨1, k⟩ then x.text else s) d.s1[k] := by
        rw [List.take_succ_eq_append_getElem hlt, List.foldl_append]; rfl
      have HFS := Lib.hid hfs
      clear g1 g2 g3 ho hfs
      by_cases m1 : d.ws[j].loc.dev = 1
      · by_cases m2 : d.ws[j].loc.pos = (k : Int)
        · have hloc : Hid (d.ws[j].loc = ⟨1, k⟩) := Lib.hid ((lc_eq _ _).2 ⟨m1, m2⟩)
          go_wp2_with fail
          go_quiet (fail)
          go_wp2
          go_round
          case rel => exact ⟨j + 1, by omega, by go_num, by rw [HFS.out, if_pos hloc.out], hb.dN _, hb1.dN _⟩
          case measure => simp [intOf]; omega
        · have hloc : Hid (¬ d.ws[j].loc = ⟨1, k⟩) := Lib.hid (fun e => m2 ((lc_eq _ _).1 e).2)
          go_wp2_with fail
          go_quiet (fail)
          go_wp2
          go_round
          case rel => exact ⟨j + 1, by omega, by go_num, by rw [HFS.out, if_neg hloc.out], hb.dN _, hb1.dN _⟩
          case measure => simp [intOf]; omega
      · have hloc : Hid (¬ d.ws[j].loc = ⟨1, k⟩) := Lib.hid (fun e => m1 ((lc_eq _ _).1 e).1)
        go_wp2_with fail
        go_quiet (fail)
        go_wp2
        go_round
        case rel => exact ⟨j + 1, by omega, by go_num, by rw [HFS.out, if_neg hloc.out], hb.dN _, hb1.dN _⟩
        case measure => simp [intOf]; omega
    · obtain rfl : j = d.ws.length := by omega
      have hlk : Hid ((d.ws.take d.ws.length).foldl (fun s x => if x.loc = ⟨1, k⟩ then x.text else s) d.s1[k] = d.look ⟨1, k⟩) := by
        refine Lib.hid ?_
        rw [List.take_length]
        unfold Dv.look
        simp [Dv.sec, hk]
      go_wp2
      go_ret2
      exact ⟨by rw [hlk.out]; rfl, hb⟩

theorem rread_bad {e0 : Int} (g sb gb b0 b1 : Nat) (v : Value) (d : Dv) (l : Lc) (he : Hid (mayE d l [] = e0)) (hz : (e0 != 0) = true) (w : World) (h : RvAt w g sb gb b0 b1 v d) :
    Calls Try.prog 17 #[.pointer (some ⟨g, 0, none⟩), .agg #[.int .i64 l.dev, .int .i64 l.pos]] w fun e w' => e = .returned (.tuple #[.string (bstr []), .int .i64 e0]) ∧ Below w.heap.size w w' := by
  go_enter Try.func17, Try.ntmps17
  go_wp2_with fail
  obtain ⟨G, hG⟩ : ∃ g, w.heap.size = g := ⟨_, rfl⟩
  obtain ⟨w0, hw0⟩ : ∃ x, w.alloc (.cells #[.int .i64 l.dev, .int .i64 l.pos] 29) = x := ⟨_, rfl⟩
  have bx : Below w.heap.size w w0 := by rw [← hw0]; exact (Below.refl _ _).alloc (Nat.le_refl _) _
  rw [hw0]
  try rw [hG]
  refine (rwrong_to he.out g sb gb b0 b1 _ w0 (h.below bx)).mono ?_
  rintro e w1 ⟨rfl, c1⟩
  go_wp2
  go_ret2
  exact ⟨rfl, bx.trans (c1.mono bx.size)⟩
theorem rread_any (g sb gb b0 b1 : Nat) (v : Value) (d : Dv) (l : Lc) (hn : d.ws.length ≤ 100000) (w : World) (h : RvAt w g sb gb b0 b1 v d) :
    Calls Try.prog 17 #[.pointer (some ⟨g, 0, none⟩), .agg #[.int .i64 l.dev, .int .i64 l.pos]] w fun e w' => e = .returned (.tuple #[.string (bstr (d.read l).1), .int .i64 (d.read l).2]) ∧ Below w.heap.size w w' := by
  by_cases he : mayE d l [] = 0
  · obtain ⟨dev, pos⟩ := l
    obtain ⟨h1, h2, h3⟩ := may_zero he
    simp only at h1 h2 h3 ⊢
    obtain ⟨k, rfl⟩ : ∃ k : Nat, pos = k := ⟨pos.toNat, by omega⟩
    have h01 : dev = 0 ∨ dev = 1 := by simpa [isB] using h1
    have e : d.read ⟨dev, k⟩ = (d.look ⟨dev, k⟩, 0) := by unfold Dv.read; rw [if_pos he]
    rw [e]
    rcases h01 with rfl | rfl
    · exact rread_ok0 g sb gb b0 b1 v d k (Lib.hid he) hn w h
    · exact rread_ok1 g sb gb b0 b1 v d k (Lib.hid he) hn w h
  · have e : d.read l = ([], mayE d l []) := by unfold Dv.read; rw [if_neg he]
    rw [e]
    exact rread_bad g sb gb b0 b1 v d l (Lib.hid rfl) (by simpa using he) w h

end Go.Proofs.Ytmlakbdigbpmaaa
