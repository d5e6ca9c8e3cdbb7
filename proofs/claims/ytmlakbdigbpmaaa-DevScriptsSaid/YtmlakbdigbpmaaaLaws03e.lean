/- The walk of the law DevFlushed: it returns true at every input, and writes to nothing that was there. No condition but that numbers fit their kind. -/
import Derived.Test.YtmlakbdigbpmaaaLaws03d
namespace Go.Proofs.Ytmlakbdigbpmaaa
open Go.RowKit
set_option linter.unusedSimpArgs false
set_option linter.unnecessarySimpa false
set_option linter.unusedVariables false

theorem scr_ok {l : List D_permafrostlaw03_Op} {d : Dv} (h : d.ok) : ∀ k, (scrD l d k).ok
  | 0 => h
  | k + 1 => by
    unfold scrD
    split
    · exact (scr_ok h k).write _ _
    · exact scr_ok h k
theorem bools_at {w wr : World} {S : Nat → Prop} {B : Option Addr} {n c : Nat} {l : List Bool} (h : SlAt w.heap.size w IsBool 1 [.slice B n c] l) (hb : Below w.heap.size w wr) (hS : ∀ j, S j → w.heap.size ≤ j) : BoolsAt (fun j => ¬ S j) wr B l ∧ n = l.length := by
  obtain ⟨A', n', c', e, rfl, hc, hm, hx⟩ := h
  simp at e
  obtain ⟨rfl, rfl, rfl⟩ := e
  refine ⟨fun i hi => ?_, rfl⟩
  obtain ⟨ad, rfl, had, hcell⟩ := hx (by omega)
  obtain ⟨es, _, hes, hu⟩ := hcell i l[i] (List.getElem?_eq_getElem hi)
  simp only [IsBool] at hes
  subst hes
  have yw := hu 0 _ rfl
  simp only [Nat.mul_one, Nat.add_zero] at yw
  rw [← hb.cell (by unfold Addr.add; split <;> exact had)] at yw
  exact ⟨ad, rfl, Nat.lt_of_lt_of_le had hb.size, fun e => absurd (hS _ e) (by omega), yw⟩

set_option maxRecDepth 100000 in
set_option maxHeartbeats 8000000 in
theorem devFlushed_main (w : World) (A1 A2 A3 : Option Addr) (c1 c2 c3 : Nat) (a0 : List D_permafrostlaw03_Op) (h0 : SlAt w.heap.size w (R_permafrostlaw03_Op w.heap.size w) 5 [.slice A1 a0.length c1] a0) (a1 : List D_permafrostlaw03_Op) (h1 : SlAt w.heap.size w (R_permafrostlaw03_Op w.heap.size w) 5 [.slice A2 a1.length c2] a1)
    (a2 : List Bool) (h2 : SlAt w.heap.size w IsBool 1 [.slice A3 a2.length c3] a2) (t0 : a0.length ≤ 30) (t1 : a1.length ≤ 30) (t2 : a2.length ≤ 100) :
    Calls Try.prog 4 #[.slice A1 a0.length c1, .slice A2 a1.length c2, .slice A3 a2.length c3] w fun e w' => e = .returned (.bool true) ∧ Below w.heap.size w w' := by
  have q0 : decide (30 < (a0.length : Int)) = false := decide_eq_false (by omega)
  have q1 : decide (30 < (a1.length : Int)) = false := decide_eq_false (by omega)
  have q2 : decide (100 < (a2.length : Int)) = false := decide_eq_false (by omega)
  have H2 := Lib.hid h2
  clear h2
  go_enter Try.func4, Try.ntmps4
  go_wp2_with fail
  refine (newL 20 20 (by decide) (by decide) (by decide) (by decide) w w (Below.refl _ _)).mono ?_
  rintro e w1 ⟨g, S0, rfl, hd0, hS0, k0⟩
  go_wp2_with fail
  go_loopw [8] (fun i wr => ∃ (k : Nat) (S : Nat → Prop), k ≤ a0.length ∧ i = .int .i64 k ∧ Lv w wr S g (scrD a0 (Dv.new 20 20) k) ∧ Below w.heap.size w wr) (fun i _ => a0.length - (intOf i).toNat)
  case atStart => exact ⟨0, S0, by omega, rfl, hd0, k0⟩
  case round =>
    obtain ⟨k, S, hk, rfl, hd, hb⟩ := hrel
    have hsz := hb.size
    have hln : (scrD a0 (Dv.new 20 20) k).ws.length ≤ 0 + k := scr_len a0 (Dv.new 20 20) k
    have HN : Hid ((scrD a0 (Dv.new 20 20) k).ws.length ≤ 100000) := Lib.hid (by omega)
    clear hln
    by_cases hlt : k < a0.length
    · obtain ⟨ad, v4, rfl, hbl, z0, z1, z2, z3, _, _⟩ := op_cells h0 hb k hlt
      have HS := Lib.hid (scrD_succ (d := Dv.new 20 20) hlt)
      go_wp2_with fail
      go_region_held3 (fun w' => w'.cell? ⟨(ad.add (k * 5)).block, (ad.add (k * 5)).off + 1, none⟩ = some (.int .i64 a0[k].l.dev) ∧ w'.cell? ⟨(ad.add (k * 5)).block, (ad.add (k * 5)).off + 2, none⟩ = some (.int .i64 a0[k].l.at_) ∧ w'.cell? ⟨(ad.add (k * 5)).block, (ad.add (k * 5)).off + 3, none⟩ = some (.string (bstr a0[k].s)))
        (first | exact ⟨y1, y2, y3⟩ | exact ⟨z1, z2, z3⟩ | go_keep)
        (first | (go_at_call 20; refine (writeL S g (scrD a0 (Dv.new 20 20) k) (toLc a0[k].l) a0[k].s rfl HN.out w wr.drew hb.drew (hd.below (Below.refl _ _).drew)).mono ?_; rintro e w2 ⟨rfl, S2, hd2, hS2, k2, b2⟩; obtain ⟨_, _, e5, _, _, y1, y2, y3, _, _⟩ := op_cells h0 b2 k hlt; cases e5))
      go_wp2
      go_round
      case rel => exact ⟨k + 1, S2, by omega, by go_num, by rw [HS.out]; exact hd2, b2⟩
      case measure => simp [intOf]; omega
    · obtain rfl : k = a0.length := by omega
      have hT : Two20 (Dv.flush (scrD a0 (Dv.new 20 20) a0.length)) := (Two20.scr ⟨rfl, rfl, rfl, rfl⟩ a0 a0.length).settled rfl rfl rfl rfl
      have hok : (Dv.flush (scrD a0 (Dv.new 20 20) a0.length)).ok := hd.o.ok.flush
      obtain ⟨D, hD⟩ : ∃ D, scrD a0 (Dv.new 20 20) a0.length = D := ⟨_, rfl⟩
      rw [hD] at hd HN hT hok
      obtain ⟨E, hE⟩ : ∃ E, D.flush = E := ⟨_, rfl⟩
      have hw0 : E.ws = [] := by rw [← hE]; rfl
      have HT := Lib.hid hT
      have HOK := Lib.hid hok
      rw [hE] at HT HOK
      have HWS := Lib.hid hw0
      clear hD hT hok hw0
      go_wp2_with fail
      refine (flushL S g D HN.out w wr hb hd).mono ?_
      rintro e w2 ⟨rfl, S2, hd2, hS2, k2, b2⟩
      rw [hE] at hd2
      clear hE HN
      go_wp2_with fail
      refine (copyL S2 g E (by rw [HWS.out]; simp) w w2 b2 hd2).mono ?_
      rintro e w3 ⟨gk, T, rfl, t3, hT0, k3⟩
      have b3 := b2.trans (k3.mono b2.size)
      have ap0 : ∀ k, T k → ¬ S2 k := fun k e e2 => by have := hT0 k e; have := hd2.o.lt k e2; omega
      have hd3 := hd2.below k3
      go_wp2_with fail
      go_loopw [10] (fun i wr => ∃ (k : Nat) (S : Nat → Prop), k ≤ a1.length ∧ i = .int .i64 k ∧ Lv w wr S g (scrD a1 E k) ∧ Lv w wr T gk E ∧ Hid (∀ k, T k → ¬ S k) ∧ Below w.heap.size w wr) (fun i _ => a1.length - (intOf i).toNat)
      case atStart => exact ⟨0, S2, by omega, rfl, hd3, t3, Lib.hid ap0, b3⟩
      case round =>
        clear hd hb hsz hd2 hd3 k2 k3 b2 b3 t3 ap0 hT0 hS2
        obtain ⟨k, S, hk, rfl, hd, ht, AP, hb⟩ := hrel
        have hsz := hb.size
        have hln : (scrD a1 E k).ws.length ≤ 0 + k := by have := scr_len a1 E k; rw [HWS.out] at this; exact this
        have HN : Hid ((scrD a1 E k).ws.length ≤ 100000) := Lib.hid (by omega)
        clear hln
        by_cases hlt : k < a1.length
        · obtain ⟨ad, v4, rfl, hbl, z0, z1, z2, z3, _, _⟩ := op_cells h1 hb k hlt
          have HS := Lib.hid (scrD_succ (d := E) hlt)
          go_wp2_with fail
          go_region_held3 (fun w' => w'.cell? ⟨(ad.add (k * 5)).block, (ad.add (k * 5)).off + 1, none⟩ = some (.int .i64 a1[k].l.dev) ∧ w'.cell? ⟨(ad.add (k * 5)).block, (ad.add (k * 5)).off + 2, none⟩ = some (.int .i64 a1[k].l.at_) ∧ w'.cell? ⟨(ad.add (k * 5)).block, (ad.add (k * 5)).off + 3, none⟩ = some (.string (bstr a1[k].s)))
            (first | exact ⟨y1, y2, y3⟩ | exact ⟨z1, z2, z3⟩ | go_keep)
            (first | (go_at_call 20; refine (writeL S g (scrD a1 E k) (toLc a1[k].l) a1[k].s rfl HN.out w _ hb.drew (hd.below (Below.refl _ _).drew)).mono ?_; rintro e w2 ⟨rfl, S2, hd2, hS2, k2, b2⟩; obtain ⟨_, _, e5, _, _, y1, y2, y3, _, _⟩ := op_cells h1 b2 k hlt; cases e5))
          have ht2 : Lv w w2 T gk E := (ht.below (Below.refl _ _).drew).keep k2 AP.out
          have AP2 := Lib.hid (apart_grow AP.out (ht.below (wj := World.drew _) (Below.refl _ _).drew).o.lt hS2)
          go_wp2
          go_round
          case rel => exact ⟨k + 1, S2, by omega, by go_num, by rw [HS.out]; exact hd2, ht2, AP2, b2⟩
          case measure => simp [intOf]; omega
        · obtain rfl : k = a1.length := by omega
          have hf := fun (dv : Int) (h01 : dv = 0 ∨ dv = 1) (at_ : Nat) (ha : at_ < 20) => flushed_found a1 a2 E HT.out HWS.out HOK.out (scr_ok HOK.out a1.length) dv h01 at_ ha
          have HF := Lib.hid hf
          obtain ⟨hbo, -⟩ := bools_at H2.out hb hd.lo
          go_wp2_with fail
          refine (crashL S g (scrD a1 E a1.length) A3 a2.length c3 a2 rfl HN.out w _ hbo hb hd).mono ?_
          rintro e w4 ⟨rfl, S4, hd4, hS4, k4, b4⟩
          have t4 := ht.keep k4 AP.out
          have hws4 : Hid (((scrD a1 E a1.length).crash a2).ws = []) := Lib.hid rfl
          clear hf
          obtain ⟨F, hF⟩ : ∃ F, (scrD a1 E a1.length).crash a2 = F := ⟨_, rfl⟩
          rw [hF] at hd4 HF hws4
          clear hF hbo ht hd hb AP hsz HN k4 hS4 hk hlt
          go_wp2_with fail
          go_loopw [11] (fun i wr => ∃ k : Nat, k ≤ 2 ∧ i = .int .i64 k ∧ Lv w wr S4 g F ∧ Lv w wr T gk E ∧ Below w.heap.size w wr) (fun i _ => 2 - (intOf i).toNat)
          case atStart => exact ⟨0, by omega, rfl, hd4, t4, b4⟩
          case round =>
            clear hd4 t4 b4
            obtain ⟨dv, hdv, rfl, hd, ht, hb⟩ := hrel
            by_cases hlt : dv < 2
            · obtain ⟨wo, rfl⟩ : ∃ wo : World, wo = wr := ⟨_, rfl⟩
              have hq5 : decide ((dv : Int) < 2) = true := decide_eq_true (by omega)
              go_wp2_with fail
              go_loopw [12] (fun i wr => ∃ k : Nat, k ≤ 20 ∧ i = .int .i64 k ∧ Lv w wr S4 g F ∧ Lv w wr T gk E ∧ Below w.heap.size w wr) (fun i _ => 20 - (intOf i).toNat)
              case atStart => exact ⟨0, by omega, rfl, hd, ht, hb⟩
              case round =>
                clear hd ht hb
                obtain ⟨at_, hat, rfl, hd, ht, hb⟩ := hrel
                by_cases hlt2 : at_ < 20
                · obtain ⟨x, y, e1, e2, e3⟩ := HF.out dv (by omega) at_ hlt2
                  have hq6 : decide ((at_ : Int) < 20) = true := decide_eq_true (by omega)
                  have E1 := Lib.hid e1
                  have E2 := Lib.hid e2
                  have E3 := Lib.hid e3
                  clear e1 e2 e3
                  go_wp2_with fail
                  obtain ⟨G, hG⟩ : ∃ g, wr.heap.size = g := ⟨_, rfl⟩
                  obtain ⟨v0, hv0⟩ : ∃ x, wr.alloc (.cells #[.int .i64 dv, .int .i64 at_] 29) = x := ⟨_, rfl⟩
                  have bx : Below wr.heap.size wr v0 := by rw [← hv0]; exact (Below.refl _ _).alloc (Nat.le_refl _) _
                  have hx : Blk v0 G 29 #[.int .i64 dv, .int .i64 at_] := by rw [← hv0, ← hG]; exact Blk.new _ _ _
                  rw [hv0]
                  try rw [hG]
                  have b5 := hb.trans (bx.mono hb.size)
                  have hd5 := hd.below bx
                  have ht5 := ht.below bx
                  clear hv0 hd ht
                  refine (readL S4 g F ⟨dv, at_⟩ E1.out (by rw [hws4.out]; simp) w v0 hd5).mono ?_
                  rintro e v1 ⟨rfl, k6⟩
                  have b6 := b5.trans (k6.mono b5.size)
                  have hd6 := hd5.below k6
                  have ht6 := ht5.below k6
                  have hx6 := hx.below k6 hx.lt
                  have x0 := hx6.cell 0
                  have x1 := hx6.cell 1
                  simp at x0 x1
                  clear hd5 ht5
                  go_wp2_with fail
                  refine (readL T gk E ⟨dv, at_⟩ E2.out (by rw [HWS.out]; simp) w v1 ht6).mono ?_
                  rintro e v2 ⟨rfl, k7⟩
                  have b7 := b6.trans (k7.mono b6.size)
                  have hd7 := hd6.below k7
                  have ht7 := ht6.below k7
                  have hx7 := hx6.below k7 hx6.lt
                  clear hd6 ht6 x0 x1 hx6 hx
                  go_wp2_with fail
                  go_loopw [18, 19] (fun f i wr => ∃ k : Nat, k ≤ a1.length ∧ i = .int .i64 k ∧ f = .bool (fnd a1 ⟨dv, at_⟩ x (x == y) k) ∧ Lv w wr S4 g F ∧ Lv w wr T gk E ∧ Blk wr G 29 #[.int .i64 dv, .int .i64 at_] ∧ Below w.heap.size w wr) (fun _ i _ => a1.length - (intOf i).toNat)
                  case atStart => exact ⟨0, by omega, rfl, rfl, hd7, ht7, hx7, b7⟩
                  case round =>
                    clear hd7 ht7 hx7
                    obtain ⟨k, hk, rfl, rfl, hd, ht, hx, hbb⟩ := hrel
                    by_cases hlt3 : k < a1.length
                    · obtain ⟨ad, v4, rfl, hbl, z0, z1, z2, z3, _, _⟩ := op_cells h1 hbb k hlt3
                      have x0 := hx.cell 0
                      have x1 := hx.cell 1
                      simp at x0 x1
                      have hfn : fnd a1 ⟨dv, at_⟩ x (x == y) (k + 1) = (fnd a1 ⟨dv, at_⟩ x (x == y) k || ((a1[k].l.dev == (dv : Int) && a1[k].l.at_ == (at_ : Int)) && a1[k].s == x)) := by rw [fnd, List.getElem?_eq_getElem hlt3]
                      obtain ⟨f, hf⟩ : ∃ f, fnd a1 ⟨dv, at_⟩ x (x == y) k = f := ⟨_, rfl⟩
                      rw [hf] at hfn ⊢
                      have HFN := Lib.hid hfn
                      clear hfn hf
                      cases f
                      · by_cases m1 : a1[k].l.dev = (dv : Int)
                        · by_cases m2 : a1[k].l.at_ = (at_ : Int)
                          · go_wp2_with fail
                            go_quiet (fail)
                            go_wp2
                            go_round
                            case rel => exact ⟨k + 1, by omega, by go_num, by rw [HFN.out]; simp [m1, m2], hd.below ((Below.refl _ _).dN _), ht.below ((Below.refl _ _).dN _), hx.drewN _, hbb.dN _⟩
                            case measure => simp [intOf]; omega
                          · go_wp2_with fail
                            go_quiet (fail)
                            go_wp2
                            go_round
                            case rel => exact ⟨k + 1, by omega, by go_num, by rw [HFN.out]; simp [m1, m2], hd.below ((Below.refl _ _).dN _), ht.below ((Below.refl _ _).dN _), hx.drewN _, hbb.dN _⟩
                            case measure => simp [intOf]; omega
                        · go_wp2_with fail
                          go_quiet (fail)
                          go_wp2
                          go_round
                          case rel => exact ⟨k + 1, by omega, by go_num, by rw [HFN.out]; simp [m1], hd.below ((Below.refl _ _).dN _), ht.below ((Below.refl _ _).dN _), hx.drewN _, hbb.dN _⟩
                          case measure => simp [intOf]; omega
                      · go_wp2_with fail
                        go_quiet (fail)
                        go_wp2
                        go_round
                        case rel => exact ⟨k + 1, by omega, by go_num, by rw [HFN.out]; rfl, hd.below ((Below.refl _ _).dN _), ht.below ((Below.refl _ _).dN _), hx.drewN _, hbb.dN _⟩
                        case measure => simp [intOf]; omega
                    · obtain rfl : k = a1.length := by omega
                      rw [E3.out]
                      go_wp2
                      go_round
                      case rel => exact ⟨at_ + 1, by omega, by go_num, hd, ht, hbb⟩
                      case measure => simp [intOf]; omega
                · obtain rfl : at_ = 20 := by omega
                  go_wp2
                  go_round
                  case rel => exact ⟨dv + 1, by omega, by go_num, hd, ht, hb⟩
                  case measure => simp [intOf]; omega
            · obtain rfl : dv = 2 := by omega
              go_wp2_with fail
              refine (waitsL0 S4 g F hws4.out w _ hd).mono ?_
              rintro e w5 ⟨⟨A, c, rfl⟩, k5⟩
              have b5 := hb.trans (k5.mono hb.size)
              go_wp2_with fail
              refine (live_ok w5).mono ?_
              rintro e w6 ⟨rfl, k6⟩
              go_wp2
              go_ret
              exact ⟨rfl, b5.trans (k6.mono b5.size)⟩

theorem slAt_form {w : World} {v : Value} {l : List Bool} (h : SlAt w.heap.size w IsBool 1 [v] l) : ∃ A c, v = .slice A l.length c := by
  obtain ⟨A, n, c, e, rfl, _⟩ := h
  simp only [List.cons.injEq, and_true] at e
  exact ⟨A, c, e⟩
set_option maxRecDepth 100000 in
set_option maxHeartbeats 4000000 in
theorem devFlushed_walk (w : World) (v0 : Value) (a0 : List D_permafrostlaw03_Op) (h0 : SlAt w.heap.size w (R_permafrostlaw03_Op w.heap.size w) 5 [v0] a0) (v1 : Value) (a1 : List D_permafrostlaw03_Op) (h1 : SlAt w.heap.size w (R_permafrostlaw03_Op w.heap.size w) 5 [v1] a1) (v2 : Value) (a2 : List Bool) (h2 : SlAt w.heap.size w IsBool 1 [v2] a2) :
    Calls Try.prog 4 #[v0, v1, v2] w fun e w' => e = .returned (.bool true) ∧ Below w.heap.size w w' := by
  obtain ⟨A1, c1, rfl⟩ := ops_form h0
  obtain ⟨A2, c2, rfl⟩ := ops_form h1
  obtain ⟨A3, c3, rfl⟩ := slAt_form h2
  by_cases t0 : a0.length ≤ 30
  · by_cases t1 : a1.length ≤ 30
    · by_cases t2 : a2.length ≤ 100
      · exact devFlushed_main w A1 A2 A3 c1 c2 c3 a0 h0 a1 h1 a2 h2 t0 t1 t2
      · have q0 : decide (30 < (a0.length : Int)) = false := decide_eq_false (by omega)
        have q1 : decide (30 < (a1.length : Int)) = false := decide_eq_false (by omega)
        have q2 : decide (100 < (a2.length : Int)) = true := decide_eq_true (by omega)
        go_enter Try.func4, Try.ntmps4
        go_wp2_with fail
        refine (live_ok w).mono ?_
        rintro e w4 ⟨rfl, k4⟩
        go_wp2
        go_ret
        exact ⟨rfl, k4⟩
    · have q0 : decide (30 < (a0.length : Int)) = false := decide_eq_false (by omega)
      have q1 : decide (30 < (a1.length : Int)) = true := decide_eq_true (by omega)
      go_enter Try.func4, Try.ntmps4
      go_wp2_with fail
      refine (live_ok w).mono ?_
      rintro e w4 ⟨rfl, k4⟩
      go_wp2
      go_ret
      exact ⟨rfl, k4⟩
  · have q0 : decide (30 < (a0.length : Int)) = true := decide_eq_true (by omega)
    go_enter Try.func4, Try.ntmps4
    go_wp2_with fail
    refine (live_ok w).mono ?_
    rintro e w4 ⟨rfl, k4⟩
    go_wp2
    go_ret
    exact ⟨rfl, k4⟩

end Go.Proofs.Ytmlakbdigbpmaaa
