/- The walk of the law DevCopy: it returns true at every input, and writes to nothing that was there. No condition but that numbers fit their kind. -/
import Derived.Test.YtmlakbdigbpmaaaRv9
namespace Go.Proofs.Ytmlakbdigbpmaaa
open Go.RowKit
set_option linter.unusedSimpArgs false
set_option linter.unnecessarySimpa false
set_option linter.unusedVariables false

/-- calls of a script, one behind the other -/
def opsD (l : List D_permafrostlaw03_Op) (d : Dv) : Nat → Dv
  | 0 => d
  | k + 1 => match l[k]? with | some o => (opsD l d k).op o | none => opsD l d k
theorem opsD_succ {l : List D_permafrostlaw03_Op} {d : Dv} {k : Nat} (hk : k < l.length) : opsD l d (k + 1) = (opsD l d k).op l[k] := by
  rw [opsD, List.getElem?_eq_getElem hk]
theorem opsD_len (l : List D_permafrostlaw03_Op) (d : Dv) : ∀ k, (opsD l d k).ws.length ≤ d.ws.length + k
  | 0 => Nat.le_refl _
  | k + 1 => by
    have ih := opsD_len l d k
    unfold opsD
    split
    · rename_i o _
      have := (opsD l d k).op_len o
      omega
    · omega
/-- a row of the call's own that nothing else may write to -/
structure Lone (w : World) (base : Nat) (u : Value) (l : List Lc) (S : Nat → Prop) : Prop where
  row : w.ownsRow base 29 2 u l.length (lcsV l)
  free : ∀ k, u.ownBlock = some k → ¬ S k
theorem Lone.keep {w w' : World} {base : Nat} {u : Value} {l : List Lc} {S T : Nat → Prop} (h : Lone w base u l S) (hk : Keep w.heap.size T w w') (hT : ∀ k, T k → S k) (S' : Nat → Prop) (hS : ∀ k, S' k → S k ∨ w.heap.size ≤ k) : Lone w' base u l S' :=
  ⟨row_keep h.row hk (fun k e => ⟨(h.row.lt k e).2, fun e2 => h.free k e (hT k e2)⟩), fun k e e2 => by
    rcases hS k e2 with e3 | e3
    · exact h.free k e e3
    · have := (h.row.lt k e).2; omega⟩
theorem locs_same {base1 base2 : Nat} {u v : Value} {a b : List Lc} (hab : a = b) (hn : a.length ≤ 100000) (w : World) (ha : w.ownsRow base1 29 2 u a.length (lcsV a)) (hb : w.ownsRow base2 29 2 v b.length (lcsV b)) :
    Calls Try.prog 13 #[u, v] w fun e w' => e = .returned (.bool true) ∧ Below w.heap.size w w' := by
  refine (locs_any base1 base2 u v a b hn (by rw [← hab]; exact hn) w ha hb).mono ?_
  rintro e w' ⟨rfl, h⟩
  exact ⟨ret_bool (by simp [hab]), h⟩

set_option maxRecDepth 100000 in
set_option maxHeartbeats 8000000 in
theorem devCopy_main (w : World) (A1 A2 : Option Addr) (c1 c2 : Nat) (a0 : List D_permafrostlaw03_Op) (h0 : SlAt w.heap.size w (R_permafrostlaw03_Op w.heap.size w) 5 [.slice A1 a0.length c1] a0) (a1 : List D_permafrostlaw03_Op) (h1 : SlAt w.heap.size w (R_permafrostlaw03_Op w.heap.size w) 5 [.slice A2 a1.length c2] a1) (t0 : a0.length ≤ 20) (t1 : a1.length ≤ 20) :
    Calls Try.prog 7 #[.slice A1 a0.length c1, .slice A2 a1.length c2] w fun e w' => e = .returned (.bool true) ∧ Below w.heap.size w w' := by
  have q0 : decide (20 < (a0.length : Int)) = false := decide_eq_false (by omega)
  have q1 : decide (20 < (a1.length : Int)) = false := decide_eq_false (by omega)
  go_enter Try.func7, Try.ntmps7
  go_wp2_with fail
  refine (newL 20 20 (by decide) (by decide) (by decide) (by decide) w w (Below.refl _ _)).mono ?_
  rintro e w1 ⟨g, S0, rfl, hd0, hS0, k0⟩
  go_wp2_with fail
  refine (rnewL 20 20 (by decide) (by decide) (by decide) (by decide) w w1 k0).mono ?_
  rintro e w2 ⟨hh, T0, rfl, ht0, hT0, k1⟩
  have b2 := k0.trans (k1.mono k0.size)
  have hd1 := hd0.below k1
  have ap0 : Hid (∀ k, S0 k → ¬ T0 k) := Lib.hid (fun k e e2 => by have := hT0 k e2; have := hd0.o.lt k e; omega)
  clear hd0 k0 k1 hS0 hT0
  go_wp2_with fail
  go_loopw [7] (fun i wr => ∃ (n : Nat) (S T : Nat → Prop), n ≤ a0.length ∧ i = .int .i64 n ∧ Lv w wr S g (opsD a0 (Dv.new 20 20) n) ∧ Rl w wr T hh (opsD a0 (Dv.new 20 20) n) ∧ Hid (∀ k, S k → ¬ T k) ∧ Below w.heap.size w wr) (fun i _ => a0.length - (intOf i).toNat)
  case atStart => exact ⟨0, S0, T0, by omega, rfl, hd1, ht0, ap0, b2⟩
  case round =>
    clear hd1 ht0 ap0 b2
    obtain ⟨n, S, T, hn, rfl, hd, ht, ap, hb⟩ := hrel
    have hsz := hb.size
    have hln : (opsD a0 (Dv.new 20 20) n).ws.length ≤ 0 + n := opsD_len a0 (Dv.new 20 20) n
    have HN : Hid ((opsD a0 (Dv.new 20 20) n).ws.length ≤ 1000) := Lib.hid (by omega)
    clear hln
    by_cases hlt : n < a0.length
    · have q2 : decide ((n : Int) < (a0.length : Int)) = true := decide_eq_true (by omega)
      obtain ⟨ad, v4, rfl, hbl, z0, z1, z2, z3, z4, h4⟩ := op_cells h0 hb n hlt
      have HS := Lib.hid (opsD_succ (d := Dv.new 20 20) hlt)
      go_wp2_with fail
      refine (does_any w wr S T g hh _ _ a0[n] v4 h4 HN.out HN.out hb hd ht ap).mono ?_
      rintro e w3 ⟨⟨b, rfl, -⟩, S', T', hd2, ht2, ap2, -, -, -, b3⟩
      have AP2 := Lib.hid ap2
      clear ap2 z0 z1 z2 z3 z4
      go_wp2
      go_round
      case rel => exact ⟨n + 1, S', T', by omega, by go_num, by rw [HS.out]; exact hd2, by rw [HS.out]; exact ht2, AP2, b3⟩
      case measure => simp [intOf]; omega
    · obtain rfl : n = a0.length := by omega
      obtain ⟨D, hD⟩ : ∃ D, opsD a0 (Dv.new 20 20) a0.length = D := ⟨_, rfl⟩
      have hDl : D.ws.length ≤ 0 + a0.length := by rw [← hD]; exact opsD_len a0 (Dv.new 20 20) a0.length
      have HDL : Hid (D.ws.length ≤ 20) := Lib.hid (by omega)
      rw [hD] at hd ht HN
      clear hD hDl h0
      have q2 : decide ((a0.length : Int) < (a0.length : Int)) = false := decide_eq_false (by omega)
      go_wp2_with fail
      refine (copyL S g D (by have := HDL.out; omega) w wr hb hd).mono ?_
      rintro e w3 ⟨gc, C, rfl, hc, hC0, k3⟩
      have b3 := hb.trans (k3.mono hsz)
      have hd3 := hd.below k3
      have ht3 := ht.below k3
      have apSC : Hid (∀ k, S k → ¬ C k) := Lib.hid (fun k e e2 => by have := hC0 k e2; have := hd.o.lt k e; omega)
      have apCT : Hid (∀ k, C k → ¬ T k) := Lib.hid (fun k e e2 => by have := hC0 k e; have := ht.lt k e2; omega)
      clear hd ht hC0 k3
      go_wp2_with fail
      refine (waitsL C gc D (by have := HDL.out; omega) w w3 hc).mono ?_
      rintro e w4 ⟨u, rfl, hu, k4⟩
      obtain ⟨UA, UC, rfl⟩ := row_form hu
      have b4 := b3.trans (k4.mono b3.size)
      have hu' : w4.ownsRow w3.heap.size 29 2 (.slice UA D.ws.length UC) (D.ws.map Wr.loc).length (lcsV (D.ws.map Wr.loc)) := by simpa using hu
      have lone : Lone w4 w3.heap.size (.slice UA D.ws.length UC) (D.ws.map Wr.loc) (fun k => C k ∨ T k) := ⟨hu', fun k e e2 => by
        have q := (hu'.lt k e).1
        rcases e2 with e2 | e2
        · have := hc.o.lt k e2; omega
        · have := ht3.lt k e2; omega⟩
      have hd4 := hd3.below k4
      have ht4 := ht3.below k4
      have hc4 := hc.below k4
      have LONE := Lib.hid lone
      clear hu hu' lone hd3 ht3 hc k4 b3
      go_wp2_with fail
      go_loopw [10] (fun i wr => ∃ (n : Nat) (C T : Nat → Prop), n ≤ a1.length ∧ i = .int .i64 n ∧ Lv w wr C gc (opsD a1 D n) ∧ Rl w wr T hh (opsD a1 D n) ∧ Lv w wr S g D ∧ Hid (∀ k, C k → ¬ T k) ∧ Hid (∀ k, S k → ¬ C k) ∧ Hid (∀ k, S k → ¬ T k) ∧ Hid (Lone wr w3.heap.size (.slice UA D.ws.length UC) (D.ws.map Wr.loc) (fun k => C k ∨ T k)) ∧ Below w.heap.size w wr) (fun i _ => a1.length - (intOf i).toNat)
      case atStart => exact ⟨0, C, T, by omega, rfl, hc4, ht4, hd4, apCT, apSC, ap, LONE, b4⟩
      case round =>
        clear hc4 ht4 hd4 apCT apSC ap LONE b4 hb hsz HN
        obtain ⟨n, C, T, hn, rfl, hc, ht, hd, apCT, apSC, apST, LONE, hb⟩ := hrel
        have hln : (opsD a1 D n).ws.length ≤ D.ws.length + n := opsD_len a1 D n
        have HN : Hid ((opsD a1 D n).ws.length ≤ 1000) := Lib.hid (by have := HDL.out; omega)
        clear hln
        by_cases hlt : n < a1.length
        · have q2 : decide ((n : Int) < (a1.length : Int)) = true := decide_eq_true (by omega)
          obtain ⟨ad, v4, rfl, hbl, z0, z1, z2, z3, z4, h4⟩ := op_cells h1 hb n hlt
          have HS := Lib.hid (opsD_succ (d := D) hlt)
          go_wp2_with fail
          refine (does_any w _ C T gc hh _ _ a1[n] v4 h4 HN.out HN.out hb hc ht apCT).mono ?_
          rintro e w5 ⟨⟨b, rfl, -⟩, C', T', hc2, ht2, ap2, gC, gT, kk, b5⟩
          have AP2 := Lib.hid ap2
          have hd5 : Lv w w5 S g D := hd.keep kk (fun k e e2 => by rcases e2 with e2 | e2; exact apSC.out k e e2; exact apST.out k e e2)
          have apSC2 := Lib.hid (apart_grow apSC.out hd.o.lt gC)
          have apST2 := Lib.hid (apart_grow apST.out hd.o.lt gT)
          have LONE2 := Lib.hid (LONE.out.keep kk (fun _ e => e) (fun k => C' k ∨ T' k) (fun k e => by
            rcases e with e | e
            · rcases gC k e with e | e
              · exact .inl (.inl e)
              · exact .inr e
            · rcases gT k e with e | e
              · exact .inl (.inr e)
              · exact .inr e))
          clear ap2 z0 z1 z2 z3 z4 gC gT kk hd hc ht LONE
          go_wp2
          go_round
          case rel => exact ⟨n + 1, C', T', by omega, by go_num, by rw [HS.out]; exact hc2, by rw [HS.out]; exact ht2, hd5, AP2, apSC2, apST2, LONE2, b5⟩
          case measure => simp [intOf]; omega
        · obtain rfl : n = a1.length := by omega
          have q2 : decide ((a1.length : Int) < (a1.length : Int)) = false := decide_eq_false (by omega)
          obtain ⟨E, hE⟩ : ∃ E, opsD a1 D a1.length = E := ⟨_, rfl⟩
          have hEl : E.ws.length ≤ D.ws.length + a1.length := by rw [← hE]; exact opsD_len a1 D a1.length
          have HEL : Hid (E.ws.length ≤ 40) := Lib.hid (by have := HDL.out; omega)
          rw [hE] at hc ht HN
          have HE := Lib.hid hE
          clear hE hEl
          obtain ⟨wA, rfl⟩ : ∃ wA : World, wA = wr := ⟨_, rfl⟩
          go_wp2_with fail
          refine (copyL S g D (by have := HDL.out; omega) w wA hb hd).mono ?_
          rintro e w5 ⟨ge, X, rfl, he, hX0, k5⟩
          have b5 := hb.trans (k5.mono hb.size)
          have hd5 := hd.below k5
          have hc5 := hc.below k5
          have ht5 := ht.below k5
          have row5 := Lib.hid (row_below LONE.out.row k5)
          clear hd hc ht LONE hX0
          go_wp2_with fail
          refine (waitsL S g D (by have := HDL.out; omega) w w5 hd5).mono ?_
          rintro e w6 ⟨u1, rfl, hu1, k6⟩
          have b6 := b5.trans (k6.mono b5.size)
          have hd6 := hd5.below k6
          have hc6 := hc5.below k6
          have ht6 := ht5.below k6
          have he6 := he.below k6
          have row6 := Lib.hid (row_below row5.out k6)
          have hu1' : w6.ownsRow w5.heap.size 29 2 u1 (D.ws.map Wr.loc).length (lcsV (D.ws.map Wr.loc)) := by simpa using hu1
          have HU1 := Lib.hid hu1'
          clear hu1 hu1' hd5 hc5 ht5 he row5
          have hml : Hid ((D.ws.map Wr.loc).length ≤ 100000) := Lib.hid (by have := HDL.out; simp; omega)
          go_wp2_with fail
          refine (locs_same rfl hml.out w6 HU1.out row6.out).mono ?_
          rintro e w7 ⟨rfl, k7⟩
          have b7 := b6.trans (k7.mono b6.size)
          have hd7 := hd6.below k7
          have hc7 := hc6.below k7
          have ht7 := ht6.below k7
          have he7 := he6.below k7
          have row7 := Lib.hid (row_below row6.out k7)
          clear hd6 hc6 ht6 he6 row6 HU1
          go_wp2_with fail
          refine (waitsL X ge D (by have := HDL.out; omega) w w7 he7).mono ?_
          rintro e w8 ⟨u2, rfl, hu2, k8⟩
          have b8 := b7.trans (k8.mono b7.size)
          have hd8 := hd7.below k8
          have hc8 := hc7.below k8
          have ht8 := ht7.below k8
          have he8 := he7.below k8
          have row8 := Lib.hid (row_below row7.out k8)
          have hu2' : w8.ownsRow w7.heap.size 29 2 u2 (D.ws.map Wr.loc).length (lcsV (D.ws.map Wr.loc)) := by simpa using hu2
          have HU2 := Lib.hid hu2'
          clear hu2 hu2' hd7 hc7 ht7 he7 row7
          go_wp2_with fail
          refine (locs_same rfl hml.out w8 HU2.out row8.out).mono ?_
          rintro e w9 ⟨rfl, k9⟩
          have b9 := b8.trans (k9.mono b8.size)
          have hd9 := hd8.below k9
          have hc9 := hc8.below k9
          have ht9 := ht8.below k9
          have he9 := he8.below k9
          clear hd8 hc8 ht8 he8 row8 HU2
          obtain ⟨sz, hsz⟩ : ∃ n, (if isB 0 then ((D.sec 0).length : Int) else 0) = n := ⟨_, rfl⟩
          have HSZ := Lib.hid hsz
          clear hsz
          go_wp2_with fail
          refine (sizeL S g D 0 HSZ.out w w9 hd9).mono ?_
          rintro e _ ⟨rfl, rfl⟩
          go_wp2_with fail
          refine (sizeL X ge D 0 HSZ.out w w9 he9).mono ?_
          rintro e _ ⟨rfl, rfl⟩
          go_wp2_with fail
          go_loopw [12] (fun i wr => ∃ (n : Nat) (S T : Nat → Prop), n ≤ a1.length ∧ i = .int .i64 n ∧ Lv w wr S g (opsD a1 D n) ∧ Rl w wr T hh (opsD a1 E n) ∧ Lv w wr C gc E ∧ Hid (∀ k, S k → ¬ T k) ∧ Hid (∀ k, C k → ¬ S k) ∧ Hid (∀ k, C k → ¬ T k) ∧ Below w.heap.size w wr) (fun i _ => a1.length - (intOf i).toNat)
          case atStart => exact ⟨0, S, T, by omega, rfl, hd9, ht9, hc9, apST, Lib.hid (fun k e e2 => apSC.out k e2 e), apCT, b9⟩
          case round =>
            clear hd9 ht9 hc9 he9 b9 b8 b7 b6 b5 apST apSC apCT hb HN k5 k6 k7 k8 k9
            obtain ⟨n, S, T, hn, rfl, hd, ht, hc, apST, apCS, apCT, hb⟩ := hrel
            have hln : (opsD a1 D n).ws.length ≤ D.ws.length + n := opsD_len a1 D n
            have HN1 : Hid ((opsD a1 D n).ws.length ≤ 1000) := Lib.hid (by have := HDL.out; omega)
            have hln2 : (opsD a1 E n).ws.length ≤ E.ws.length + n := opsD_len a1 E n
            have HN2 : Hid ((opsD a1 E n).ws.length ≤ 1000) := Lib.hid (by have := HEL.out; omega)
            clear hln hln2
            by_cases hlt : n < a1.length
            · have q3 : decide ((n : Int) < (a1.length : Int)) = true := decide_eq_true (by omega)
              obtain ⟨ad, v4, rfl, hbl, z0, z1, z2, z3, z4, h4⟩ := op_cells h1 hb n hlt
              have HS1 := Lib.hid (opsD_succ (d := D) hlt)
              have HS2 := Lib.hid (opsD_succ (d := E) hlt)
              go_wp2_with fail
              refine (does_any w _ S T g hh _ _ a1[n] v4 h4 HN1.out HN2.out hb hd ht apST).mono ?_
              rintro e w5 ⟨⟨b, rfl, -⟩, S', T', hd2, ht2, ap2, gS, gT, kk, b5⟩
              have AP2 := Lib.hid ap2
              have hc5 : Lv w w5 C gc E := hc.keep kk (fun k e e2 => by rcases e2 with e2 | e2; exact apCS.out k e e2; exact apCT.out k e e2)
              have apCS2 := Lib.hid (apart_grow apCS.out hc.o.lt gS)
              have apCT2 := Lib.hid (apart_grow apCT.out hc.o.lt gT)
              clear ap2 z0 z1 z2 z3 z4 gS gT kk hd hc ht
              go_wp2
              go_round
              case rel => exact ⟨n + 1, S', T', by omega, by go_num, by rw [HS1.out]; exact hd2, by rw [HS2.out]; exact ht2, hc5, AP2, apCS2, apCT2, b5⟩
              case measure => simp [intOf]; omega
            · obtain rfl : n = a1.length := by omega
              have q3 : decide ((a1.length : Int) < (a1.length : Int)) = false := decide_eq_false (by omega)
              rw [HE.out] at hd
              have hel : Hid (E.ws.length ≤ 100000) := Lib.hid (by have := HEL.out; omega)
              have heml : Hid ((E.ws.map Wr.loc).length ≤ 100000) := Lib.hid (by have := HEL.out; simp; omega)
              obtain ⟨wB, rfl⟩ : ∃ wB : World, wB = wr := ⟨_, rfl⟩
              go_wp2_with fail
              refine (waitsL S g E hel.out w wB hd).mono ?_
              rintro e w6 ⟨u1, rfl, hu1, k6⟩
              have b6 := hb.trans (k6.mono hb.size)
              have hd6 := hd.below k6
              have hc6 := hc.below k6
              have hu1' : w6.ownsRow wB.heap.size 29 2 u1 (E.ws.map Wr.loc).length (lcsV (E.ws.map Wr.loc)) := by simpa using hu1
              have HU1 := Lib.hid hu1'
              clear hu1 hu1' hd hc ht
              go_wp2_with fail
              refine (waitsL C gc E hel.out w w6 hc6).mono ?_
              rintro e w7 ⟨u2, rfl, hu2, k7⟩
              have b7 := b6.trans (k7.mono b6.size)
              have hd7 := hd6.below k7
              have hc7 := hc6.below k7
              have hu2' : w7.ownsRow w6.heap.size 29 2 u2 (E.ws.map Wr.loc).length (lcsV (E.ws.map Wr.loc)) := by simpa using hu2
              have HU2 := Lib.hid hu2'
              have HU1b := Lib.hid (row_below HU1.out k7)
              clear hu2 hu2' hd6 hc6 HU1
              go_wp2_with fail
              refine (locs_same rfl heml.out w7 HU1b.out HU2.out).mono ?_
              rintro e w8 ⟨rfl, k8⟩
              have b8 := b7.trans (k8.mono b7.size)
              have hd8 := hd7.below k8
              have hc8 := hc7.below k8
              obtain ⟨l0, hl0⟩ : ∃ b, (isB 0 && E.gone 0) = b := ⟨_, rfl⟩
              obtain ⟨l1, hl1⟩ : ∃ b, (isB 1 && E.gone 1) = b := ⟨_, rfl⟩
              have HL0 := Lib.hid hl0
              have HL1 := Lib.hid hl1
              clear hl0 hl1 hd7 hc7
              go_wp2_with fail
              refine (lostL S g E 0 HL0.out w w8 hd8).mono ?_
              rintro e _ ⟨rfl, rfl⟩
              go_wp2_with fail
              refine (lostL C gc E 0 HL0.out w w8 hc8).mono ?_
              rintro e _ ⟨rfl, rfl⟩
              go_wp2_with fail
              refine (lostL S g E 1 HL1.out w w8 hd8).mono ?_
              rintro e _ ⟨rfl, rfl⟩
              go_wp2_with fail
              refine (lostL C gc E 1 HL1.out w w8 hc8).mono ?_
              rintro e _ ⟨rfl, rfl⟩
              go_wp2_with fail
              refine (live_ok w8).mono ?_
              rintro e w9 ⟨rfl, k9⟩
              go_wp2
              go_ret
              exact ⟨rfl, b8.trans (k9.mono b8.size)⟩

set_option maxRecDepth 100000 in
set_option maxHeartbeats 4000000 in
theorem devCopy_walk (w : World) (v0 : Value) (a0 : List D_permafrostlaw03_Op) (h0 : SlAt w.heap.size w (R_permafrostlaw03_Op w.heap.size w) 5 [v0] a0) (v1 : Value) (a1 : List D_permafrostlaw03_Op) (h1 : SlAt w.heap.size w (R_permafrostlaw03_Op w.heap.size w) 5 [v1] a1) :
    Calls Try.prog 7 #[v0, v1] w fun e w' => e = .returned (.bool true) ∧ Below w.heap.size w w' := by
  obtain ⟨A1, c1, rfl⟩ := ops_form h0
  obtain ⟨A2, c2, rfl⟩ := ops_form h1
  by_cases t0 : a0.length ≤ 20
  · by_cases t1 : a1.length ≤ 20
    · exact devCopy_main w A1 A2 c1 c2 a0 h0 a1 h1 t0 t1
    · have q0 : decide (20 < (a0.length : Int)) = false := decide_eq_false (by omega)
      have q1 : decide (20 < (a1.length : Int)) = true := decide_eq_true (by omega)
      go_enter Try.func7, Try.ntmps7
      go_wp2_with fail
      refine (live_ok w).mono ?_
      rintro e w4 ⟨rfl, k4⟩
      go_wp2
      go_ret
      exact ⟨rfl, k4⟩
  · have q0 : decide (20 < (a0.length : Int)) = true := decide_eq_true (by omega)
    go_enter Try.func7, Try.ntmps7
    go_wp2_with fail
    refine (live_ok w).mono ?_
    rintro e w4 ⟨rfl, k4⟩
    go_wp2
    go_ret
    exact ⟨rfl, k4⟩

end Go.Proofs.Ytmlakbdigbpmaaa
