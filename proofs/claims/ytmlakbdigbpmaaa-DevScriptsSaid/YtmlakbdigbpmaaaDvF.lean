/- Package dev: slices.Clone, Copy: contracts. -/
import Derived.Test.YtmlakbdigbpmaaaDvE
namespace Go.Proofs.Ytmlakbdigbpmaaa
open Go.RowKit
set_option linter.unusedSimpArgs false
set_option linter.unnecessarySimpa false
set_option linter.unusedVariables false

theorem row_cells {w : World} {e : TypeId} {size b n c : Nat} {xs : List Value} (h : w.ownsRow 0 e size (.slice (some ⟨b, 0, none⟩) n c) n xs) : ∀ j u, xs[j]? = some u → w.cell? ((⟨b, 0, none⟩ : Addr).add j) = some u := h.cells rfl
theorem str_info : (Try.prog.info? 9).map (fun i => (i.zero, i.size, i.bytes)) = some (some (.string ⟨#[]⟩), 1, 16) := by kernel_rfl

set_option maxHeartbeats 1000000 in
theorem clones_any (b n c : Nat) (xs : List Value) (w : World) (hn : 0 < n) (hm : n ≤ 100000) (h : w.ownsRow 0 9 1 (.slice (some ⟨b, 0, none⟩) n c) n xs) :
    Calls Try.prog 37 #[.slice (some ⟨b, 0, none⟩) n c] w fun e w' => (∃ g cap, e = .returned (.slice (some ⟨g, 0, none⟩) n cap) ∧ w'.ownsRow 0 9 1 (.slice (some ⟨g, 0, none⟩) n cap) n xs ∧ w.heap.size ≤ g ∧ 0 < cap) ∧ Below w.heap.size w w' := by
  obtain ⟨i0, hi0, hz0, hz1, hz2⟩ := info_parts str_info
  have hnil : ∀ w, (binOp .eql 56 (.slice (some ⟨b, 0, none⟩) n c) (.slice none 0 0)).run Try.prog w = .ok (.bool false) w := fun w => Lib.run_eql_slice_nil w 56 9 _ _ _ _ _ Try.underlying56
  have F1 : n ≤ maxLen := by unfold maxLen; omega
  have F2 : n * 16 ≤ 140737488355328 := by omega
  have HL := Lib.hid h.1
  have HC := Lib.hid (row_cells (row_below h ((Below.refl _ w).alloc (Nat.le_refl _) (.cells #[] 9))))
  have F1 := Lib.hid F1
  have F2 := Lib.hid F2
  clear h
  go_enter Try.func37, Try.ntmps37
  go_wp2_with (at_builtin; refine wpList_clone (P := Try.prog) _ rfl _ _ 56 rfl 9 i0 _ 1 16 Try.underlying56 hi0 hz0 hz1 hz2 rfl (by decide) ⟨w.heap.size, 0, none⟩ rfl ⟨b, 0, none⟩ n c xs rfl HL.out HC.out hn F1.out F2.out ?_; intro g cap w1 ho hb hg hlt hc; clear hnil)
  go_wp2
  go_ret
  exact ⟨⟨g, cap, rfl, ho.row hn, by simp at hg; omega, hc⟩, ((Below.refl _ w).alloc (Nat.le_refl _) _).trans (hb.mono (by simp))⟩

set_option maxHeartbeats 1000000 in
theorem clonew_any (b n c : Nat) (xs : List Value) (w : World) (hn : 0 < n) (hm : n ≤ 100000) (h : w.ownsRow 0 64 3 (.slice (some ⟨b, 0, none⟩) n c) n xs) :
    Calls Try.prog 38 #[.slice (some ⟨b, 0, none⟩) n c] w fun e w' => (∃ g cap, e = .returned (.slice (some ⟨g, 0, none⟩) n cap) ∧ w'.ownsRow 0 64 3 (.slice (some ⟨g, 0, none⟩) n cap) n xs ∧ w.heap.size ≤ g ∧ 0 < cap) ∧ Below w.heap.size w w' := by
  obtain ⟨i0, hi0, hz0, hz1, hz2⟩ := info_parts wr_info
  have hnil : ∀ w, (binOp .eql 60 (.slice (some ⟨b, 0, none⟩) n c) (.slice none 0 0)).run Try.prog w = .ok (.bool false) w := fun w => Lib.run_eql_slice_nil w 60 64 _ _ _ _ _ Try.underlying60
  have F1 : n ≤ maxLen := by unfold maxLen; omega
  have F2 : n * 32 ≤ 140737488355328 := by omega
  have HL := Lib.hid h.1
  have HC := Lib.hid (row_cells (row_below h ((Below.refl _ w).alloc (Nat.le_refl _) (.cells #[] 64))))
  have F1 := Lib.hid F1
  have F2 := Lib.hid F2
  clear h
  go_enter Try.func38, Try.ntmps38
  go_wp2_with (at_builtin; refine wpList_clone (P := Try.prog) _ rfl _ _ 60 rfl 64 i0 _ 3 32 Try.underlying60 hi0 hz0 hz1 hz2 rfl (by decide) ⟨w.heap.size, 0, none⟩ rfl ⟨b, 0, none⟩ n c xs rfl HL.out HC.out hn F1.out F2.out ?_; intro g cap w1 ho hb hg hlt hc; clear hnil)
  go_wp2
  go_ret
  exact ⟨⟨g, cap, rfl, ho.row hn, by simp at hg; omega, hc⟩, ((Below.refl _ w).alloc (Nat.le_refl _) _).trans (hb.mono (by simp))⟩

set_option maxHeartbeats 1000000 in
theorem clonew_zero (A : Option Addr) (c : Nat) (w : World) (hA : A = none → c = 0) :
    Calls Try.prog 38 #[.slice A 0 c] w fun e w' => (∃ u, e = .returned u ∧ Owns w' 64 3 u 0 [] ∧ zblock u = none) ∧ Below w.heap.size w w' := by
  cases A with
  | none =>
    obtain rfl := hA rfl
    have hnil : ∀ w, (binOp .eql 60 (.slice none 0 0) (.slice none 0 0)).run Try.prog w = .ok (.bool true) w := fun w => Lib.run_eql_slice_nil w 60 64 _ _ _ _ _ Try.underlying60
    go_enter Try.func38, Try.ntmps38
    go_wp2
    go_ret
    exact ⟨⟨_, rfl, Owns.nil _ _ _, rfl⟩, Below.refl _ _⟩
  | some a =>
    have hnil : ∀ w, (binOp .eql 60 (.slice (some a) 0 c) (.slice none 0 0)).run Try.prog w = .ok (.bool false) w := fun w => Lib.run_eql_slice_nil w 60 64 _ _ _ _ _ Try.underlying60
    go_enter Try.func38, Try.ntmps38
    go_wp2
    go_ret
    exact ⟨⟨_, rfl, .inr ⟨_, rfl, rfl, rfl⟩, rfl⟩, (Below.refl _ w).alloc (Nat.le_refl _) _⟩

theorem clonew_all (v : Value) (l : List Wr) (w : World) (hm : l.length ≤ 100000) (h : Owns w 64 3 v l.length (wrsV l)) :
    Calls Try.prog 38 #[v] w fun e w' => (∃ u, e = .returned u ∧ Owns w' 64 3 u l.length (wrsV l) ∧ (∀ k, zblock u = some k → w.heap.size ≤ k)) ∧ Below w.heap.size w w' := by
  by_cases hn : 0 < l.length
  · have hr := h.row hn
    obtain ⟨b, c, rfl, _, _⟩ := hr.form hn
    refine (clonew_any b l.length c _ w hn hm hr).mono ?_
    rintro e w' ⟨⟨g, cap, rfl, ho, hg, hc⟩, hb⟩
    exact ⟨⟨_, rfl, Owns.of ho hc, fun k hk => by rw [zblock_some hc] at hk; cases hk; exact hg⟩, hb⟩
  · have e : l = [] := List.eq_nil_of_length_eq_zero (by omega)
    subst e
    obtain ⟨A, c, rfl, _, _⟩ := h.form
    refine (clonew_zero A c w ?_).mono ?_
    · rintro rfl
      rcases h with ⟨h, _⟩ | ⟨a, e, _⟩
      · rcases h.2 with ⟨e, _⟩ | ⟨g, cap, cur, e, _⟩
        · simp at e; exact e
        · simp at e
      · simp at e
    · rintro e w' ⟨⟨u, rfl, ho, hz⟩, hb⟩
      exact ⟨⟨u, rfl, ho, fun k hk => by rw [hz] at hk; cases hk⟩, hb⟩

/-- a copy under way: k devices' sectors are its own -/
def CpSt (w : World) (gc : Nat) (d : Dv) (v : Value) (k : Nat) (wr : World) : Prop :=
  ∃ e0 e1 C0 C1, Blk wr gc 62 #[.slice (some ⟨e0, 0, none⟩) d.s0.length C0, .slice (some ⟨e1, 0, none⟩) d.s1.length C1, .bool d.l0, .bool d.l1, v] ∧
    wr.ownsRow 0 9 1 (.slice (some ⟨e0, 0, none⟩) d.s0.length C0) d.s0.length (secV d.s0) ∧ wr.ownsRow 0 9 1 (.slice (some ⟨e1, 0, none⟩) d.s1.length C1) d.s1.length (secV d.s1) ∧
    (1 ≤ k → w.heap.size ≤ e0) ∧ (2 ≤ k → w.heap.size ≤ e1 ∧ e0 ≠ e1) ∧ Below w.heap.size w wr

theorem CpSt.one {w wr w1 : World} {gc g1 C : Nat} {d : Dv} {v : Value} (h : CpSt w gc d v 0 wr) (hb : Below wr.heap.size wr w1) (hp : w1.ownsRow 0 9 1 (.slice (some ⟨g1, 0, none⟩) d.s0.length C) d.s0.length (secV d.s0)) (hg : wr.heap.size ≤ g1) (hgc : w.heap.size ≤ gc) : CpSt w gc d v 1 (w1.setCell ⟨gc, 0, none⟩ (.slice (some ⟨g1, 0, none⟩) d.s0.length C)) := by
  obtain ⟨e0, e1, C0, C1, hbk, q0, q1, m0, m1, hbel⟩ := h
  have hsz := hbel.size
  have hbk1 := hbk.below hb hbk.lt
  refine ⟨g1, e1, C, C1, ?_, row_set hp (row_ne hp hbk1 (by decide)) _, row_set (row_below q1 hb) (row_ne (row_below q1 hb) hbk1 (by decide)) _, fun _ => by omega, fun h => absurd h (by omega), below_at (hbel.trans (hb.mono hsz)) hgc _ _⟩
  have := hbk1.set_ 0 (.slice (some ⟨g1, 0, none⟩) d.s0.length C)
  simpa using this
theorem CpSt.two {w wr w1 : World} {gc g1 C : Nat} {d : Dv} {v : Value} (h : CpSt w gc d v 1 wr) (hb : Below wr.heap.size wr w1) (hp : w1.ownsRow 0 9 1 (.slice (some ⟨g1, 0, none⟩) d.s1.length C) d.s1.length (secV d.s1)) (hg : wr.heap.size ≤ g1) (hgc : w.heap.size ≤ gc) : CpSt w gc d v 2 (w1.setCell ⟨gc, 1, none⟩ (.slice (some ⟨g1, 0, none⟩) d.s1.length C)) := by
  obtain ⟨e0, e1, C0, C1, hbk, q0, q1, m0, m1, hbel⟩ := h
  have hsz := hbel.size
  have hbk1 := hbk.below hb hbk.lt
  have hlt := row_lt q0
  refine ⟨e0, g1, C0, C, ?_, row_set (row_below q0 hb) (row_ne (row_below q0 hb) hbk1 (by decide)) _, row_set hp (row_ne hp hbk1 (by decide)) _, fun _ => m0 (by omega), fun _ => ⟨by omega, by omega⟩, below_at (hbel.trans (hb.mono hsz)) hgc _ _⟩
  have := hbk1.set_ 1 (.slice (some ⟨g1, 0, none⟩) d.s1.length C)
  simpa using this
theorem CpSt.done {w wr w1 : World} {gc : Nat} {d : Dv} {v u : Value} (h : CpSt w gc d v 2 wr) (hb : Below wr.heap.size wr w1) (hu : Owns w1 64 3 u d.ws.length (wrsV d.ws)) (hz : ∀ k, zblock u = some k → wr.heap.size ≤ k) (hgc : w.heap.size ≤ gc) :
    ∃ e0 e1, DvAt (w1.setCell ⟨gc, 4, none⟩ u) gc e0 e1 u d ∧ (∀ k, dvB gc e0 e1 u k → w.heap.size ≤ k) ∧ Below w.heap.size w (w1.setCell ⟨gc, 4, none⟩ u) := by
  obtain ⟨e0, e1, C0, C1, hbk, q0, q1, m0, m1, hbel⟩ := h
  have hsz := hbel.size
  have hbk1 := hbk.below hb hbk.lt
  refine ⟨e0, e1, ⟨⟨C0, C1, ?_, row_set (row_below q0 hb) (row_ne (row_below q0 hb) hbk1 (by decide)) _, row_set (row_below q1 hb) (row_ne (row_below q1 hb) hbk1 (by decide)) _⟩, hu.set (hu.ne hbk1 (by decide)) _, (m1 (by omega)).2⟩, ?_, below_at (hbel.trans (hb.mono hsz)) hgc _ _⟩
  · have := hbk1.set_ 4 u
    simpa using this
  · rintro k (rfl | rfl | rfl | hk)
    · exact hgc
    · exact m0 (by omega)
    · exact (m1 (by omega)).1
    · have := hz k hk; omega

set_option maxHeartbeats 2000000 in
theorem copy_any (g b0 b1 : Nat) (v : Value) (d : Dv) (h1 : 0 < d.s0.length) (h2 : 0 < d.s1.length) (h3 : d.s0.length ≤ 512) (h4 : d.s1.length ≤ 512) (hn : d.ws.length ≤ 100000) (w : World) (h : DvAt w g b0 b1 v d) :
    Calls Try.prog 22 #[.pointer (some ⟨g, 0, none⟩)] w fun e w' => (∃ g' b0' b1' v', e = .returned (.pointer (some ⟨g', 0, none⟩)) ∧ DvAt w' g' b0' b1' v' d ∧ ∀ k, dvB g' b0' b1' v' k → w.heap.size ≤ k) ∧ Below w.heap.size w w' := by
  obtain ⟨c0, c1, hg, r0, r1⟩ := h.hx
  have y0 := hg.cell 0
  have y1 := hg.cell 1
  have y2 := hg.cell 2
  have y3 := hg.cell 3
  have y4 := hg.cell 4
  simp at y0 y1 y2 y3 y4
  have a0 := fun o => (hg.alloc o).cell 0
  have a1 := fun o => (hg.alloc o).cell 1
  simp at a0 a1
  obtain ⟨A, c, rfl, hvc, hcm⟩ := h.form
  have i0 : ∀ w, (Instr.index 58 (.agg #[.slice (some ⟨b0, 0, none⟩) d.s0.length c0, .slice (some ⟨b1, 0, none⟩) d.s1.length c1]) (.int .i64 0)).run Try.prog w = .ok (.slice (some ⟨b0, 0, none⟩) d.s0.length c0) w := fun _ => by kernel_rfl
  have i1 : ∀ w, (Instr.index 58 (.agg #[.slice (some ⟨b0, 0, none⟩) d.s0.length c0, .slice (some ⟨b1, 0, none⟩) d.s1.length c1]) (.int .i64 1)).run Try.prog w = .ok (.slice (some ⟨b1, 0, none⟩) d.s1.length c1) w := fun _ => by kernel_rfl
  go_enter Try.func22, Try.ntmps22
  go_wp2_with fail
  obtain ⟨gc, hgc⟩ : ∃ g, w.heap.size = g := ⟨_, rfl⟩
  obtain ⟨w0, hw0⟩ : ∃ x, w.alloc (.cells #[.slice (some ⟨b0, 0, none⟩) d.s0.length c0, .slice (some ⟨b1, 0, none⟩) d.s1.length c1, .bool d.l0, .bool d.l1, .slice A d.ws.length c] 62) = x := ⟨_, rfl⟩
  have bx : Below w.heap.size w w0 := by rw [← hw0]; exact (Below.refl _ _).alloc (Nat.le_refl _) _
  have hx : Blk w0 gc 62 #[.slice (some ⟨b0, 0, none⟩) d.s0.length c0, .slice (some ⟨b1, 0, none⟩) d.s1.length c1, .bool d.l0, .bool d.l1, .slice A d.ws.length c] := by rw [← hw0, ← hgc]; exact Blk.new _ _ _
  rw [hw0]
  try rw [hgc]
  have hst : CpSt w gc d (.slice A d.ws.length c) 0 w0 := ⟨b0, b1, c0, c1, hx, row_below r0 bx, row_below r1 bx, fun h => absurd h (by omega), fun h => absurd h (by omega), bx⟩
  clear y0 y1 y2 y3 y4 a0 a1 hg hx
  go_loopw [15] (fun i wr => ∃ k : Nat, k ≤ 2 ∧ i = .int .i64 k ∧ CpSt w gc d (.slice A d.ws.length c) k wr) (fun i _ => 2 - (intOf i).toNat)
  case atStart => exact ⟨0, by omega, rfl, hst⟩
  case round =>
    obtain ⟨k, hk, rfl, hcp⟩ := hrel
    have HCP := Lib.hid hcp
    obtain ⟨e0, e1, C0, C1, hb, q0, q1, m0, m1, hbel⟩ := hcp
    have hsz := hbel.size
    have hgcl : gc < wr.heap.size := hb.lt
    clear q0 q1 m0 m1
    rcases (show k = 0 ∨ k = 1 ∨ k = 2 by omega) with rfl | rfl | rfl
    · go_wp2_with fail
      refine (clones_any b0 d.s0.length c0 _ wr h1 (by omega) (row_below r0 hbel)).mono ?_
      rintro e w1 ⟨⟨g1, C, rfl, p1, hg1, hC⟩, k1⟩
      have hb1 := hb.below k1 hgcl
      have y0 := hb1.cell 0
      have f0 := hb1.frozen 0
      simp at y0
      have HN := Lib.hid (HCP.out.one k1 p1 hg1 (Nat.le_of_eq hgc))
      clear hb
      go_wp2_with fail
      exact ⟨⟨1, by omega, rfl, HN.out⟩, by simp [intOf]⟩
    · go_wp2_with fail
      refine (clones_any b1 d.s1.length c1 _ wr h2 (by omega) (row_below r1 hbel)).mono ?_
      rintro e w1 ⟨⟨g1, C, rfl, p1, hg1, hC⟩, k1⟩
      have hb1 := hb.below k1 hgcl
      have y0 := hb1.cell 1
      have f0 := hb1.frozen 1
      simp at y0
      have HN := Lib.hid (HCP.out.two k1 p1 hg1 (Nat.le_of_eq hgc))
      clear hb
      go_wp2_with fail
      exact ⟨⟨2, by omega, rfl, HN.out⟩, by simp [intOf]⟩
    · have hw9 := h.hw.below hbel
      have hg9 := (h.below hbel).cell4.1
      go_wp2_with fail
      refine (clonew_all _ d.ws wr hn hw9).mono ?_
      rintro e w1 ⟨⟨u, rfl, hu, hz⟩, k1⟩
      have hb1 := hb.below k1 hgcl
      have y0 := hb1.cell 4
      have f0 := hb1.frozen 4
      simp at y0
      obtain ⟨U, C, rfl, _, _⟩ := hu.form
      have HN := Lib.hid (HCP.out.done k1 hu hz (Nat.le_of_eq hgc))
      clear hb hu
      go_wp2
      go_ret
      obtain ⟨E0, E1, h1, h2, h3⟩ := HN.out
      exact ⟨⟨gc, E0, E1, _, rfl, h1, h2⟩, h3⟩

end Go.Proofs.Ytmlakbdigbpmaaa
