/- The laws of package sum that reach the reference: SumOf, SumLong. -/
import Derived.Test.YtppckmfaidpliaaDoorLaws02c
import Derived.Test.YtppckmfaidpliaaDoorOfb
namespace Go.Proofs.YtppckmfaidpliaaDoor
open Go.RowKit
set_option linter.unusedSimpArgs false
set_option linter.unnecessarySimpa false
set_option linter.unusedVariables false

set_option maxRecDepth 100000 in
set_option maxHeartbeats 2000000 in
theorem sumOf_walk (w : World) (hR : RootsAt w) (a0 : List UInt8) (h0 : a0.length ≤ 140737488351232) :
    Calls Tryd.prog 3 #[.string (bstr a0)] w fun e w' => e = .returned (.bool true) ∧ Below w.heap.size w w' := by
  by_cases hl : 300 < a0.length
  · have hi : (300 : Int) < a0.length := by omega
    go_enter Tryd.func3, Tryd.ntmps3
    go_wp2_with fail
    refine (live_ok w hR).mono ?_
    rintro e w3 ⟨rfl, hb3⟩
    go_wp2
    go_ret
    exact ⟨rfl, hb3⟩
  · have hi : ¬ (300 : Int) < a0.length := by omega
    go_enter Tryd.func3, Tryd.ntmps3
    go_wp2_with fail
    refine (of_any a0 (by omega) w hR).mono ?_
    rintro e w1 ⟨rfl, hb1⟩
    obtain ⟨D, hD⟩ : ∃ D, shaL a0 = D := ⟨_, rfl⟩
    rw [hD]
    have HD := Lib.hid hD
    clear hD
    go_wp2_with fail
    refine (of_ref a0 (by omega) w1).mono ?_
    rintro e w2 ⟨rfl, hb2⟩
    have hb2' := below_then hb1 hb2
    rw [HD.out]
    go_wp2_with fail
    refine (hex_any a0 (by omega) w2).mono ?_
    rintro e w3 ⟨rfl, hb3⟩
    have hb3' := below_then hb2' hb3
    obtain ⟨X, hX⟩ : ∃ X, hexL a0 = X := ⟨_, rfl⟩
    rw [hX]
    have HX := Lib.hid hX
    clear hX
    go_wp2_with fail
    refine (hex_ref a0 (by omega) w3).mono ?_
    rintro e w4 ⟨rfl, hb4⟩
    have hb4' := below_then hb3' hb4
    rw [HX.out]
    go_wp2_with fail
    refine (live_ok w4 (hR.below hb4' hR.1)).mono ?_
    rintro e w5 ⟨rfl, hb5⟩
    have hb5' := below_then hb4' hb5
    go_wp2
    go_ret
    exact ⟨rfl, hb5'⟩

def fillL (n k : Nat) (x : UInt8) : List UInt8 := List.replicate k x ++ List.replicate (n - k) 0
theorem fill_step (n k : Nat) (x : UInt8) (h : k < n) : (fillL n k x).set k x = fillL n (k + 1) x := by
  unfold fillL
  rw [List.set_append_right _ _ (by simp)]
  have : n - k = (n - (k + 1)) + 1 := by omega
  rw [this, List.replicate_succ]
  simp [List.replicate_succ']
theorem fill_len (n k : Nat) (x : UInt8) (h : k ≤ n) : (fillL n k x).length = n := by simp [fillL]; omega

set_option maxRecDepth 100000 in
set_option maxHeartbeats 2000000 in
theorem sumLong_walk (w : World) (hR : RootsAt w) (a0 : Int) (h0 : (Lit.int .u8 a0).wf = true) (a1 : Int) (h1 : (Lit.int .i64 a1).wf = true) :
    Calls Tryd.prog 5 #[.int .u8 a0, .int .i64 a1] w fun e w' => e = .returned (.bool true) ∧ Below w.heap.size w w' := by
  by_cases hl : a1 < 1
  · go_enter Tryd.func5, Tryd.ntmps5
    go_wp2_with fail
    refine (live_ok w hR).mono ?_
    rintro e w3 ⟨rfl, hb3⟩
    go_wp2
    go_ret
    exact ⟨rfl, hb3⟩
  · by_cases hg : 200 < a1
    · go_enter Tryd.func5, Tryd.ntmps5
      go_wp2_with fail
      refine (live_ok w hR).mono ?_
      rintro e w3 ⟨rfl, hb3⟩
      go_wp2
      go_ret
      exact ⟨rfl, hb3⟩
    · obtain ⟨n, rfl⟩ : ∃ n : Nat, a1 = n := ⟨a1.toNat, by omega⟩
      have ha : 0 ≤ a0 ∧ a0 < 256 := by
        have e1 : IntKind.u8.min = 0 := by decide
        have e2 : IntKind.u8.max = 255 := by decide
        simp only [Lit.wf, e1, e2, Bool.and_eq_true, decide_eq_true_eq] at h0
        omega
      obtain ⟨x, rfl⟩ : ∃ x : UInt8, a0 = x.toNat := ⟨UInt8.ofNat a0.toNat, by simp; omega⟩
      have hmk := run_make_bytes (P := Tryd.prog) 33 5 bl_byte Tryd.underlying33 n (by omega) w
      obtain ⟨G, hG⟩ : ∃ G, w.heap.size = G := ⟨_, rfl⟩
      have hst : Blk (w.alloc (.cells (bcells (List.replicate n 0)) 5)) G 5 (bcells (fillL n 0 x)) := by
        rw [fillL]
        simpa using blk_at hG
      have hbe : Below w.heap.size w (w.alloc (.cells (bcells (List.replicate n 0)) 5)) := (Below.refl _ _).alloc (Nat.le_refl _) _
      obtain ⟨w0, hw0⟩ : ∃ y, w.alloc (.cells (bcells (List.replicate n 0)) 5) = y := ⟨_, rfl⟩
      rw [hw0] at hmk hst hbe
      rw [hG] at hmk
      have n1 : ¬ (n : Int) < 1 := hl
      have n2 : ¬ (200 : Int) < n := hg
      clear hw0
      go_enter Tryd.func5, Tryd.ntmps5
      go_wp2_with fail
      go_loopw [6] (fun i wr => ∃ k : Nat, k ≤ n ∧ i = .int .i64 k ∧ Blk wr G 5 (bcells (fillL n k x)) ∧ Below w.heap.size w wr) (fun i _ => n - (intOf i).toNat)
      case atStart => exact ⟨0, by omega, rfl, hst, hbe⟩
      case round =>
        clear hst hbe hmk
        obtain ⟨k, hk, rfl, hbk, hb⟩ := hrel
        by_cases hlt : k < n
        · have q1 : decide ((k : Int) < n) = true := decide_eq_true (by omega)
          have T0 : (0 : Int) ≤ k := by omega
          have T1 : (k : Int) < n := by omega
          have cs := hbk.cell k
          rw [get_bcells, List.getElem?_eq_getElem (by rw [fill_len n k x hk]; exact hlt)] at cs
          simp only [Option.map_some] at cs
          have fs := hbk.frozen k
          have hset := hbk.set_ k (.int .u8 (x.toNat : Int))
          rw [set_bcells, fill_step n k x hlt] at hset
          have hb3 := below_at hb (g := G) (by omega) k (.int .u8 (x.toNat : Int))
          have HS := Lib.hid hset
          have HB := Lib.hid hb3
          clear hset hb3
          go_wp2
          go_round
          case rel => exact ⟨k + 1, by omega, by go_num, by first | exact HS.out | simpa using HS.out, by first | exact HB.out | simpa using HB.out⟩
          case measure => simp [intOf] <;> omega
        · obtain rfl : k = n := by omega
          have q1 : decide ((k : Int) < k) = false := by simp
          have hbk2 : Blk wr G 5 (bcells (List.replicate k x ++ [])) := by
            have := hbk
            rw [fillL, Nat.sub_self] at this
            exact this
          obtain ⟨L, hL⟩ : ∃ L, List.replicate k x = L := ⟨_, rfl⟩
          have hLl : L.length = k := by rw [← hL]; simp
          rw [hL] at hbk2
          have cv := fun (w' : World) (h : Blk w' G 5 (bcells (L ++ []))) => run_convert_bcells (P := Tryd.prog) h Tryd.underlying33 Tryd.underlying5 Tryd.underlying9 k k hLl
          have c1 := cv _ hbk2
          have CV := Lib.hid cv
          have hlen := shaL_len L
          have hGw : G < wr.heap.size := hbk2.lt
          clear hL hbk cv
          go_wp2_with fail
          refine (of_any L (by omega) wr (hR.below hb hR.1)).mono ?_
          rintro e w1 ⟨rfl, hb1⟩
          obtain ⟨D, hD⟩ : ∃ D, shaL L = D := ⟨_, rfl⟩
          rw [hD] at hlen ⊢
          have HD := Lib.hid hD
          have c2 := CV.out _ (hbk2.below hb1 hGw)
          have hb1' := below_then hb hb1
          clear hD c1
          go_wp2_with fail
          refine (of_ref L (by omega) w1).mono ?_
          rintro e w2 ⟨rfl, hb2⟩
          have hb2' := below_then hb1' hb2
          rw [HD.out]
          go_wp2_with fail
          refine (live_ok w2 (hR.below hb2' hR.1)).mono ?_
          rintro e w5 ⟨rfl, hb5⟩
          have hb5' := below_then hb2' hb5
          go_wp2
          go_ret
          exact ⟨rfl, hb5'⟩
end Go.Proofs.YtppckmfaidpliaaDoor
