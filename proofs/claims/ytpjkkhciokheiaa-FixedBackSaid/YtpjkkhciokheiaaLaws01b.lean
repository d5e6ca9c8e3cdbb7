/- The walks of the laws FixedLow, FixedCut and FixedPuts: each returns true at every input, and writes to nothing that was there. No condition but that numbers fit their kind. -/
import Derived.Test.YtpjkkhciokheiaaLaws01
namespace Go.Proofs.Ytpjkkhciokheiaa
open Go.RowKit
set_option linter.unusedSimpArgs false
set_option linter.unusedVariables false

theorem putL_some {n wd : Int} (h : putL n wd ≠ []) : 0 ≤ n ∧ n ≤ mostI wd ∧ 1 ≤ wd ∧ wd ≤ 7 ∧ putL n wd = leB n.toNat wd.toNat := by
  unfold putL at h ⊢
  by_cases a : n < 0
  · simp [a] at h
  · by_cases b : mostI wd < n
    · simp [a, b] at h
    · have := mostI_ok a b
      exact ⟨by omega, by omega, this.1, this.2, by rw [if_neg a, if_neg b]⟩
theorem mostI_nat {m : Nat} (h1 : 1 ≤ m) (h7 : m ≤ 7) : mostI m = (256 ^ m - 1 : Nat) := by
  unfold mostI
  have : 0 < 256 ^ m := Nat.pow_pos (by decide)
  rw [if_neg (by omega), if_neg (by omega), Int.toNat_natCast, Int.natCast_sub this]
  simp
theorem putL_low {n wd : Int} (h : putL n wd ≠ []) (h7 : wd < 7) : putL n (wd + 1) = putL n wd ++ [0] ∧ ((putL n wd).length : Int) = wd := by
  obtain ⟨a, b, c, d, e⟩ := putL_some h
  obtain ⟨m, rfl⟩ : ∃ m : Nat, wd = m := ⟨wd.toNat, by omega⟩
  obtain ⟨q, rfl⟩ : ∃ q : Nat, n = q := ⟨n.toNat, by omega⟩
  rw [mostI_nat (by omega) (by omega)] at b
  have hp : 0 < 256 ^ m := Nat.pow_pos (by decide)
  have hq : q < 256 ^ m := by omega
  refine ⟨?_, by rw [e, length_leB]; rfl⟩
  have h2 : putL (q : Int) ((m : Int) + 1) = leB q (m + 1) := by
    unfold putL
    have hm : mostI ((m : Int) + 1) = (256 ^ (m + 1) - 1 : Nat) := by
      have := mostI_nat (m := m + 1) (by omega) (by omega)
      simpa using this
    have hle : 256 ^ m ≤ 256 ^ (m + 1) := Nat.pow_le_pow_right (by decide) (by omega)
    rw [if_neg (by omega), hm, if_neg (by omega), Int.toNat_natCast, show ((m : Int) + 1).toNat = m + 1 by omega]
  rw [h2, e, leB_snoc, Nat.div_eq_of_lt hq]
  rfl

set_option maxHeartbeats 1000000 in
theorem fixedLow_walk (w : World) (a0 : Int) (h0 : (Lit.int .i64 a0).wf = true) (a1 : Int) (h1 : (Lit.int .i64 a1).wf = true) :
    Calls Try.prog 7 #[.int .i64 a0, .int .i64 a1] w fun e w' => e = .returned (.bool true) ∧ Below w.heap.size w w' := by
  clear h0 h1
  by_cases hp : putL a0 a1 = []
  · have HP := Lib.hid hp
    clear hp
    go_enter Try.func7, Try.ntmps7
    go_wp2_with fail
    refine (put_to HP.out _).mono ?_
    rintro e w1 ⟨rfl, b1⟩
    go_wp2_with fail
    refine (live_any _).mono ?_
    rintro e w2 ⟨rfl, b2⟩
    go_wp2
    go_ret
    exact ⟨rfl, b1.trans (b2.mono b1.size)⟩
  · have hw := putL_some hp
    have hw1 := hw.2.2.1
    have hw2 := hw.2.2.2.1
    have hlow := putL_low hp
    obtain ⟨c, q, hq⟩ : ∃ c q, putL a0 a1 = c :: q := by
      cases h : putL a0 a1 with
      | nil => exact absurd h hp
      | cons c q => exact ⟨c, q, rfl⟩
    rw [hq] at hlow
    have hql : q.length ≤ 6 := by have := putL_len a0 a1; rw [hq] at this; simp at this; omega
    have HQ := Lib.hid hq
    clear hw hq hp
    by_cases h7 : 7 ≤ a1
    · clear hlow
      go_enter Try.func7, Try.ntmps7
      go_wp2_with fail
      refine (put_to HQ.out _).mono ?_
      rintro e w1 ⟨rfl, b1⟩
      go_wp2_with fail
      refine (live_any _).mono ?_
      rintro e w2 ⟨rfl, b2⟩
      go_wp2
      go_ret
      exact ⟨rfl, b1.trans (b2.mono b1.size)⟩
    · obtain ⟨e1, e2⟩ := hlow (by omega)
      have HL := Lib.hid e1
      have e3 : ((q.length : Int) + 1 == a1) = true := by simp at e2; simp; omega
      clear hlow e1 e2
      go_enter Try.func7, Try.ntmps7
      go_wp2_with fail
      refine (put_to HQ.out _).mono ?_
      rintro e w1 ⟨rfl, b1⟩
      go_wp2_with fail
      refine (put_to HL.out _).mono ?_
      rintro e w2 ⟨rfl, b2⟩
      go_wp2_with fail
      refine (live_any _).mono ?_
      rintro e w3 ⟨rfl, b3⟩
      go_wp2
      go_ret
      have s1 := b1.size
      have s2 := b2.size
      exact ⟨rfl, b1.trans ((b2.mono s1).trans (b3.mono (by omega)))⟩


theorem take_cut {l : List UInt8} {at_ : Nat} {wd : Int} (h1 : 1 ≤ wd) (h7 : wd ≤ 7) (hl : (l.length : Int) = wd) (ha : at_ < l.length) : Rd.number ⟨l.take at_, 0⟩ wd = (0, ⟨l.take at_, 2⟩) := by
  have hm : ¬ mostI wd < 0 := by
    obtain ⟨m, rfl⟩ : ∃ m : Nat, wd = m := ⟨wd.toNat, by omega⟩
    rw [mostI_nat (by omega) (by omega)]; omega
  have hlen : ((l.take at_).length : Int) < wd := by simp; omega
  unfold Rd.number Rd.take
  rw [if_neg hm]
  simp only [ne_eq, not_true_eq_false, if_false]
  rw [if_pos hlen]
  rfl

set_option maxHeartbeats 1000000 in
theorem fixedCut_walk (w : World) (a0 : Int) (h0 : (Lit.int .i64 a0).wf = true) (a1 : Int) (h1 : (Lit.int .i64 a1).wf = true) (a2 : Int) (h2 : (Lit.int .i64 a2).wf = true) :
    Calls Try.prog 5 #[.int .i64 a0, .int .i64 a1, .int .i64 a2] w fun e w' => e = .returned (.bool true) ∧ Below w.heap.size w w' := by
  clear h0 h1 h2
  by_cases hp : putL a0 a1 = []
  · have HP := Lib.hid hp
    clear hp
    go_enter Try.func5, Try.ntmps5
    go_wp2_with fail
    refine (put_to HP.out _).mono ?_
    rintro e w1 ⟨rfl, b1⟩
    go_wp2_with fail
    refine (live_any _).mono ?_
    rintro e w2 ⟨rfl, b2⟩
    go_wp2
    go_ret
    exact ⟨rfl, b1.trans (b2.mono b1.size)⟩
  · have hw := putL_some hp
    have hw1 := hw.2.2.1
    have hw2 := hw.2.2.2.1
    have hlen : ((putL a0 a1).length : Int) = a1 := by rw [hw.2.2.2.2, length_leB]; omega
    have hcut := fun x => take_cut (l := putL a0 a1) (at_ := x) hw1 hw2 hlen
    have h7 := putL_len a0 a1
    obtain ⟨c, q, hq⟩ : ∃ c q, putL a0 a1 = c :: q := by
      cases h : putL a0 a1 with
      | nil => exact absurd h hp
      | cons c q => exact ⟨c, q, rfl⟩
    rw [hq] at hcut h7
    have HQ := Lib.hid hq
    clear hw hq hp hlen
    have hql : q.length ≤ 6 := by simp at h7; omega
    clear h7
    by_cases ha : a2 < 0
    · clear hcut
      go_enter Try.func5, Try.ntmps5
      go_wp2_with fail
      refine (put_to HQ.out _).mono ?_
      rintro e w1 ⟨rfl, b1⟩
      go_wp2_with fail
      refine (live_any _).mono ?_
      rintro e w2 ⟨rfl, b2⟩
      go_wp2
      go_ret
      exact ⟨rfl, b1.trans (b2.mono b1.size)⟩
    · by_cases hb : (q.length : Int) + 1 ≤ a2
      · clear hcut
        go_enter Try.func5, Try.ntmps5
        go_wp2_with fail
        refine (put_to HQ.out _).mono ?_
        rintro e w1 ⟨rfl, b1⟩
        go_wp2_with fail
        refine (live_any _).mono ?_
        rintro e w2 ⟨rfl, b2⟩
        go_wp2
        go_ret
        exact ⟨rfl, b1.trans (b2.mono b1.size)⟩
      · obtain ⟨m, rfl⟩ : ∃ m : Nat, a2 = m := ⟨a2.toNat, by omega⟩
        have hm : m ≤ q.length := by omega
        have HC := Lib.hid (hcut m (by simp; omega))
        have hlt : ((c :: q).take m).length ≤ 9223372036854775807 := by simp; omega
        clear hcut
        go_enter Try.func5, Try.ntmps5
        go_wp2_with fail
        refine (put_to HQ.out _).mono ?_
        rintro e w1 ⟨rfl, b1⟩
        go_wp2_with fail
        refine (read_any _ _).mono ?_
        rintro e w2 ⟨rfl, r2, b2⟩
        go_wp2_with fail
        refine (number_to HC.out _ _ r2 hlt).mono ?_
        rintro e w3 ⟨rfl, r3, b3⟩
        go_wp2_with fail
        refine (end_to (n := 2) rfl _ _ r3).mono ?_
        rintro e _ ⟨rfl, rfl⟩
        go_wp2_with fail
        refine (left_to (n := 0) rfl _ _ r3 hlt).mono ?_
        rintro e _ ⟨rfl, rfl⟩
        go_wp2_with fail
        refine (live_any _).mono ?_
        rintro e w4 ⟨rfl, b4⟩
        go_wp2
        go_ret
        have s1 := b1.size
        have s2 := b2.size
        have s3 := b3.size
        have k3 := (b3.mono (B' := w.heap.size) (S' := fun _ => False) (by omega) (fun k hk e => by omega)).below
        exact ⟨rfl, b1.trans ((b2.mono s1).trans (k3.trans (b4.mono (by omega))))⟩

end Go.Proofs.Ytpjkkhciokheiaa
