/- The walk of the law DevScripts: it returns true at every input, and writes to nothing that was there. No condition but that numbers fit their kind. -/
import Derived.Test.YtmlakbdigbpmaaaLaws03f
namespace Go.Proofs.Ytmlakbdigbpmaaa
open Go.RowKit
set_option linter.unusedSimpArgs false
set_option linter.unnecessarySimpa false
set_option linter.unusedVariables false

theorem Dv.op_slen (d : Dv) (o : D_permafrostlaw03_Op) : (d.op o).s0.length = d.s0.length ∧ (d.op o).s1.length = d.s1.length := by
  unfold Dv.op
  split
  · unfold Dv.write; split <;> exact ⟨rfl, rfl⟩
  split
  · exact ⟨rfl, rfl⟩
  split
  · exact d.settle_len _ _
  split
  · exact d.settle_len _ _
  split
  · unfold Dv.spoilAt
    split
    · exact Dv.put_len _ _
    · exact ⟨rfl, rfl⟩
  split
  · unfold Dv.lose
    split
    · simp
    · split
      · simp
      · exact ⟨rfl, rfl⟩
  · exact ⟨rfl, rfl⟩
theorem opsD_slen (l : List D_permafrostlaw03_Op) (d : Dv) : ∀ k, (opsD l d k).s0.length = d.s0.length ∧ (opsD l d k).s1.length = d.s1.length
  | 0 => ⟨rfl, rfl⟩
  | k + 1 => by
    have ih := opsD_slen l d k
    unfold opsD
    split
    · rename_i o _
      have := (opsD l d k).op_slen o
      exact ⟨this.1.trans ih.1, this.2.trans ih.2⟩
    · exact ih

set_option maxRecDepth 100000 in
set_option maxHeartbeats 8000000 in
theorem devScripts_main (w : World) (ns nf : Nat) (g1 : 1 ≤ ns) (g2 : ns ≤ 512) (g3 : 1 ≤ nf) (g4 : nf ≤ 512) (A1 : Option Addr) (c1 : Nat) (a2 : List D_permafrostlaw03_Op) (h2 : SlAt w.heap.size w (R_permafrostlaw03_Op w.heap.size w) 5 [.slice A1 a2.length c1] a2) (t0 : a2.length ≤ 60) :
    Calls Try.prog 3 #[.int .i64 ns, .int .i64 nf, .slice A1 a2.length c1] w fun e w' => e = .returned (.bool true) ∧ Below w.heap.size w w' := by
  have q0 : decide (60 < (a2.length : Int)) = false := decide_eq_false (by omega)
  go_enter Try.func3, Try.ntmps3
  go_wp2_with fail
  refine (newL ns nf g1 g2 g3 g4 w w (Below.refl _ _)).mono ?_
  rintro e w1 ⟨g, S0, rfl, hd0, hS0, k0⟩
  go_wp2_with fail
  refine (rnewL ns nf g1 g2 g3 g4 w w1 k0).mono ?_
  rintro e w2 ⟨hh, T0, rfl, ht0, hT0, k1⟩
  have b2 := k0.trans (k1.mono k0.size)
  have hd1 := hd0.below k1
  have ap0 : Hid (∀ k, S0 k → ¬ T0 k) := Lib.hid (fun k e e2 => by have := hT0 k e2; have := hd0.o.lt k e; omega)
  clear hd0 k0 k1 hS0 hT0
  go_wp2_with fail
  go_loopw [9] (fun i wr => ∃ (n : Nat) (S T : Nat → Prop), n ≤ a2.length ∧ i = .int .i64 n ∧ Lv w wr S g (opsD a2 (Dv.new ns nf) n) ∧ Rl w wr T hh (opsD a2 (Dv.new ns nf) n) ∧ Hid (∀ k, S k → ¬ T k) ∧ Below w.heap.size w wr) (fun i _ => a2.length - (intOf i).toNat)
  case atStart => exact ⟨0, S0, T0, by omega, rfl, hd1, ht0, ap0, b2⟩
  case round =>
    clear hd1 ht0 ap0 b2
    obtain ⟨n, S, T, hn, rfl, hd, ht, ap, hb⟩ := hrel
    have hsz := hb.size
    have hln : (opsD a2 (Dv.new ns nf) n).ws.length ≤ 0 + n := opsD_len a2 (Dv.new ns nf) n
    have HN : Hid ((opsD a2 (Dv.new ns nf) n).ws.length ≤ 1000) := Lib.hid (by omega)
    clear hln
    by_cases hlt : n < a2.length
    · have q2 : decide ((n : Int) < (a2.length : Int)) = true := decide_eq_true (by omega)
      obtain ⟨ad, v4, rfl, hbl, z0, z1, z2, z3, z4, h4⟩ := op_cells h2 hb n hlt
      obtain ⟨A4, c4, rfl⟩ := slAt_form h4
      have HS := Lib.hid (opsD_succ (d := Dv.new ns nf) hlt)
      obtain ⟨wo, rfl⟩ : ∃ wo : World, wo = wr := ⟨_, rfl⟩
      by_cases u1 : 1100 < a2[n].s.length
      · have q3 : decide (1100 < (a2[n].s.length : Int)) = true := decide_eq_true (by omega)
        clear u1
        go_wp2_with fail
        refine (live_ok wo).mono ?_
        rintro e w4 ⟨rfl, k4⟩
        go_wp2
        go_ret
        exact ⟨rfl, hb.trans (k4.mono hsz)⟩
      · have q3 : decide (1100 < (a2[n].s.length : Int)) = false := decide_eq_false (by omega)
        by_cases u2 : 100 < a2[n].keep.length
        · have q4 : decide (100 < (a2[n].keep.length : Int)) = true := decide_eq_true (by omega)
          clear u1 u2
          go_wp2_with fail
          refine (live_ok wo).mono ?_
          rintro e w4 ⟨rfl, k4⟩
          go_wp2
          go_ret
          exact ⟨rfl, hb.trans (k4.mono hsz)⟩
        · have q4 : decide (100 < (a2[n].keep.length : Int)) = false := decide_eq_false (by omega)
          clear u1 u2
          go_wp2_with fail
          refine (does_any w wo S T g hh _ _ a2[n] _ h4 HN.out HN.out hb hd ht ap).mono ?_
          rintro e w3 ⟨⟨b, rfl, hbt⟩, S', T', hd2, ht2, ap2, -, -, -, b3⟩
          obtain rfl := hbt rfl
          rw [← HS.out] at hd2 ht2
          have AP2 := Lib.hid ap2
          obtain ⟨D, hD⟩ : ∃ D, opsD a2 (Dv.new ns nf) (n + 1) = D := ⟨_, rfl⟩
          have hDl : D.ws.length ≤ 0 + (n + 1) := by rw [← hD]; exact opsD_len a2 (Dv.new ns nf) (n + 1)
          have HDL : Hid (D.ws.length ≤ 100000) := Lib.hid (by omega)
          have HML : Hid ((D.ws.map Wr.loc).length ≤ 100000) := Lib.hid (by simp; omega)
          rw [hD] at hd2 ht2
          have HD := Lib.hid hD
          clear hD hDl ap2 z0 z1 z2 z3 z4 hd ht HS HN
          go_wp2_with fail
          refine (waitsL S' g D HDL.out w w3 hd2).mono ?_
          rintro e w6 ⟨x1, rfl, hu1, k6⟩
          have b6 := b3.trans (k6.mono b3.size)
          have hd6 := hd2.below k6
          have ht6 := ht2.below k6
          have hu1' : w6.ownsRow w3.heap.size 29 2 x1 (D.ws.map Wr.loc).length (lcsV (D.ws.map Wr.loc)) := by simpa using hu1
          have HU1 := Lib.hid hu1'
          clear hu1 hu1' hd2 ht2
          go_wp2_with fail
          refine (rwaitsL T' hh D HDL.out w w6 ht6).mono ?_
          rintro e w7 ⟨x2, rfl, hu2, k7⟩
          have b7 := b6.trans (k7.mono b6.size)
          have hd7 := hd6.below k7
          have ht7 := ht6.below k7
          have hu2' : w7.ownsRow w6.heap.size 29 2 x2 (D.ws.map Wr.loc).length (lcsV (D.ws.map Wr.loc)) := by simpa using hu2
          have HU2 := Lib.hid hu2'
          have HU1b := Lib.hid (row_below HU1.out k7)
          clear hu2 hu2' hd6 ht6 HU1
          go_wp2_with fail
          refine (locs_same rfl HML.out w7 HU1b.out HU2.out).mono ?_
          rintro e w8 ⟨rfl, k8⟩
          have b8 := b7.trans (k8.mono b7.size)
          have hd8 := hd7.below k8
          have ht8 := ht7.below k8
          clear hd7 ht7
          go_wp2_with fail
          go_loopw [10] (fun i wr => ∃ j : Nat, j ≤ n + 1 ∧ i = .int .i64 j ∧ Lv w wr S' g D ∧ Rl w wr T' hh D ∧ Below w.heap.size w wr) (fun i _ => n + 1 - (intOf i).toNat)
          case atStart => exact ⟨0, by omega, rfl, hd8, ht8, b8⟩
          case round =>
            clear hd8 ht8 b8 b7 b6 b3
            obtain ⟨j, hj, rfl, hd, ht, hb2⟩ := hrel
            by_cases hlt2 : j ≤ n
            · have q5 : decide ((j : Int) ≤ (n : Int)) = true := decide_eq_true (by omega)
              have hja : j < a2.length := by omega
              obtain ⟨ad', v4', e5, hbl', y0, y1, y2, y3, y4, _⟩ := op_cells h2 hb2 j hja
              cases e5
              have hI0 : (0 : Int) ≤ j := by omega
              have hI1 : (j : Int) < a2.length := by omega
              obtain ⟨r1, hr1⟩ : ∃ r, D.read ⟨a2[j].l.dev, a2[j].l.at_⟩ = r := ⟨_, rfl⟩
              obtain ⟨r1, n1⟩ := r1
              have HR1 := Lib.hid hr1
              clear hr1 y0 y3 y4
              go_wp2_with fail
              refine (readL S' g D ⟨a2[j].l.dev, a2[j].l.at_⟩ HR1.out HDL.out w _ hd).mono ?_
              rintro e w9 ⟨rfl, k9⟩
              have b9 := hb2.trans (k9.mono hb2.size)
              have hd9 := hd.below k9
              have ht9 := ht.below k9
              clear y1 y2 hd ht
              obtain ⟨_, _, e5, _, _, y1, y2, _, _, _⟩ := op_cells h2 b9 j hja
              cases e5
              go_wp2_with fail
              refine (rreadL T' hh D ⟨a2[j].l.dev, a2[j].l.at_⟩ HR1.out HDL.out w w9 ht9).mono ?_
              rintro e w10 ⟨rfl, k10⟩
              have b10 := b9.trans (k10.mono b9.size)
              have hd10 := hd9.below k10
              have ht10 := ht9.below k10
              clear y1 y2 hd9 ht9
              go_wp2
              go_round
              case rel => exact ⟨j + 1, by omega, by go_num, hd10, ht10, b10⟩
              case measure => simp [intOf]; omega
            · obtain rfl : j = n + 1 := by omega
              have q5 : decide (((n + 1 : Nat) : Int) ≤ (n : Int)) = false := decide_eq_false (by omega)
              have q6 : decide ((n : Int) + 1 ≤ (n : Int)) = false := decide_eq_false (by omega)
              go_wp2
              go_round
              case rel => exact ⟨n + 1, S', T', by omega, by go_num, by rw [HD.out]; exact hd, by rw [HD.out]; exact ht, AP2, hb2⟩
              case measure => simp [intOf]; omega
    · obtain rfl : n = a2.length := by omega
      have q2 : decide ((a2.length : Int) < (a2.length : Int)) = false := decide_eq_false (by omega)
      obtain ⟨D, hD⟩ : ∃ D, opsD a2 (Dv.new ns nf) a2.length = D := ⟨_, rfl⟩
      have hsl := opsD_slen a2 (Dv.new ns nf) a2.length
      rw [hD] at hsl hd ht
      have e0 : (if isB 0 then ((D.sec 0).length : Int) else 0) = (ns : Int) := by
        have : D.s0.length = ns := by rw [hsl.1]; simp [Dv.new]
        simp [isB, Dv.sec, this]
      have e1 : (if isB 1 then ((D.sec 1).length : Int) else 0) = (nf : Int) := by
        have : D.s1.length = nf := by rw [hsl.2]; simp [Dv.new]
        simp [isB, Dv.sec, this]
      have HE0 := Lib.hid e0
      have HE1 := Lib.hid e1
      obtain ⟨l0, hl0⟩ : ∃ b, D.l0 = b := ⟨_, rfl⟩
      obtain ⟨l1, hl1⟩ : ∃ b, D.l1 = b := ⟨_, rfl⟩
      have HL0 : Hid ((isB 0 && D.gone 0) = l0) := Lib.hid (by rw [← hl0]; rfl)
      have HL1 : Hid ((isB 1 && D.gone 1) = l1) := Lib.hid (by rw [← hl1]; rfl)
      obtain ⟨⟨sb, gb, b0, b1, v, hr, -⟩, -, -, -⟩ := id ht
      have hrd := hr
      obtain ⟨C0, C1, hg, -, hl, -, -⟩ := hrd.hx
      rw [hl0, hl1] at hl
      have x1 := hg.cell 1
      have x2 := hl.cell 0
      have x3 := hl.cell 1
      simp at x1 x2 x3
      have hdd := hd.below (wj := World.drew _) (Below.refl _ _).drew
      have hbd := hb.drew
      clear hD hsl e0 e1 hl0 hl1 hr hrd HN
      go_wp2_with fail
      go_region_held3 (fun w' => w'.cell? ⟨hh, 1, none⟩ = some (.slice (some ⟨gb, 0, none⟩) 2 2) ∧ w'.cell? ⟨gb, 0, none⟩ = some (.bool l0) ∧ w'.cell? ⟨gb, 1, none⟩ = some (.bool l1))
        (first | exact ⟨y1, y2, y3⟩ | exact ⟨x1, x2, x3⟩ | go_keep)
        (first
        | (go_at_call 9; refine (live_ok _).mono ?_; rintro e w4 ⟨rfl, k4⟩; have hg4 := hg.drew.below k4 hg.drew.lt; have hl4 := hl.drew.below k4 hl.drew.lt; have y1 := hg4.cell 1; have y2 := hl4.cell 0; have y3 := hl4.cell 1; simp at y1 y2 y3)
        | (go_at_call_of 18 (Value.int IntKind.i64 0); refine (sizeL S g D 0 HE0.out w _ hdd).mono ?_; rintro e _ ⟨rfl, rfl⟩)
        | (go_at_call_of 18 (Value.int IntKind.i64 1); refine (sizeL S g D 1 HE1.out w _ hdd).mono ?_; rintro e _ ⟨rfl, rfl⟩)
        | (go_at_call_of 19 (Value.int IntKind.i64 0); refine (lostL S g D 0 HL0.out w _ hdd).mono ?_; rintro e _ ⟨rfl, rfl⟩)
        | (go_at_call_of 19 (Value.int IntKind.i64 1); refine (lostL S g D 1 HL1.out w _ hdd).mono ?_; rintro e _ ⟨rfl, rfl⟩))
      go_wp2
      go_ret
      exact ⟨rfl, hbd.trans (k4.mono hbd.size)⟩

set_option maxRecDepth 100000 in
set_option maxHeartbeats 4000000 in
theorem devScripts_walk (w : World) (a0 : Int) (h0 : (Lit.int .i64 a0).wf = true) (a1 : Int) (h1 : (Lit.int .i64 a1).wf = true) (v2 : Value) (a2 : List D_permafrostlaw03_Op) (h2 : SlAt w.heap.size w (R_permafrostlaw03_Op w.heap.size w) 5 [v2] a2) :
    Calls Try.prog 3 #[.int .i64 a0, .int .i64 a1, v2] w fun e w' => e = .returned (.bool true) ∧ Below w.heap.size w w' := by
  obtain ⟨A1, c1, rfl⟩ := ops_form h2
  clear h0 h1
  by_cases t0 : a2.length ≤ 60
  · by_cases hb : a0 < 1 ∨ a1 < 1 ∨ 512 < a0 ∨ 512 < a1
    · have q0 : decide (60 < (a2.length : Int)) = false := decide_eq_false (by omega)
      have HB := Lib.hid hb
      clear hb
      go_enter Try.func3, Try.ntmps3
      go_wp2_with fail
      refine (new_bad a0 a1 HB.out w).mono ?_
      rintro e _ ⟨rfl, rfl⟩
      go_wp2_with fail
      refine (rnew_bad a0 a1 HB.out w).mono ?_
      rintro e _ ⟨rfl, rfl⟩
      go_wp2_with fail
      refine (live_ok w).mono ?_
      rintro e w4 ⟨rfl, k4⟩
      go_wp2
      go_ret
      exact ⟨rfl, k4⟩
    · obtain ⟨ns, rfl⟩ : ∃ n : Nat, a0 = n := ⟨a0.toNat, by omega⟩
      obtain ⟨nf, rfl⟩ : ∃ n : Nat, a1 = n := ⟨a1.toNat, by omega⟩
      exact devScripts_main w ns nf (by omega) (by omega) (by omega) (by omega) A1 c1 a2 h2 t0
  · have q0 : decide (60 < (a2.length : Int)) = true := decide_eq_true (by omega)
    go_enter Try.func3, Try.ntmps3
    go_wp2_with fail
    refine (live_ok w).mono ?_
    rintro e w4 ⟨rfl, k4⟩
    go_wp2
    go_ret
    exact ⟨rfl, k4⟩

end Go.Proofs.Ytmlakbdigbpmaaa
