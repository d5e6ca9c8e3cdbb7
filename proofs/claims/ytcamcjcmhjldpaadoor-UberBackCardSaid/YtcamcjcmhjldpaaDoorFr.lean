/- Contracts of the reference 01: Most, Put, Text: what they return for every number and width. -/
import Derived.Test.YtcamcjcmhjldpaaDoorFx
namespace Go.Proofs.YtcamcjcmhjldpaaDoor
open Go.RowKit
set_option linter.unusedSimpArgs false
set_option linter.unnecessarySimpa false
set_option linter.unusedVariables false

set_option maxHeartbeats 400000 in
theorem rmost_any (n : Int) (w : World) :
    Calls Tryd.prog 55 #[.int .i64 n] w fun e w' => e = .returned (.int .i64 (mostI n)) ∧ w = w' := by
  by_cases h1 : n < 1
  · go_enter Tryd.func55, Tryd.ntmps55
    go_wp2
    go_ret
    exact ⟨by simp [mostI, h1], rfl⟩
  · by_cases h7 : 7 < n
    · go_enter Tryd.func55, Tryd.ntmps55
      go_wp2
      go_ret
      exact ⟨by simp [mostI, h1, h7], rfl⟩
    · obtain ⟨m, rfl⟩ : ∃ m : Nat, n = m := ⟨n.toNat, by omega⟩
      have hm7 : m ≤ 7 := by omega
      go_enter Tryd.func55, Tryd.ntmps55
      go_wp2_with fail
      go_loop [3, 4] (fun n i => ∃ k : Nat, k ≤ m ∧ i = .int .i64 k ∧ n = .int .i64 (256 ^ k : Nat)) (fun _ i => m - (intOf i).toNat)
      case atStart => exact ⟨0, by omega, rfl, rfl⟩
      case round =>
        obtain ⟨k, hk, rfl, rfl⟩ := hrel
        have hp : 256 ^ k ≤ 256 ^ 7 := Nat.pow_le_pow_right (by decide) (by omega)
        have hp2 : k < m → 256 ^ k ≤ 256 ^ 6 := fun h => Nat.pow_le_pow_right (by decide) (by omega)
        obtain ⟨p, hpe⟩ : ∃ p, 256 ^ k = p := ⟨_, rfl⟩
        rw [hpe] at hp hp2 ⊢
        have HP := Lib.hid hpe
        clear hpe
        by_cases hlt : k < m
        · have hp3 := hp2 hlt
          clear hp2
          simp at hp hp3
          go_wp2
          go_round
          case rel => exact ⟨k + 1, by omega, by go_num, by rw [Nat.pow_succ, HP.out]; go_num⟩
          case measure => simp [intOf]; omega
        · clear hp2
          simp at hp
          obtain rfl : k = m := by omega
          go_wp2
          go_ret
          exact ⟨ret_int (by rw [← HP.out]; simp [mostI]; omega), rfl⟩

set_option maxHeartbeats 400000 in
theorem rput_any (n wd : Int) (w : World) :
    Calls Tryd.prog 26 #[.int .i64 n, .int .i64 wd] w fun e w' => e = .returned (.string (bstr (putL n wd))) ∧ Below w.heap.size w w' := by
  by_cases h1 : n < 0
  · go_enter Tryd.func26, Tryd.ntmps26
    go_wp2
    go_ret
    exact ⟨ret_str (by simp [putL, h1]), Below.refl _ _⟩
  · by_cases h2 : mostI wd < n
    · go_enter Tryd.func26, Tryd.ntmps26
      go_wp2_with (go_at_call 55; refine (rmost_any _ _).mono ?_; rintro e w' ⟨rfl, rfl⟩)
      go_ret
      exact ⟨ret_str (by simp [putL, h1, h2]), Below.refl _ _⟩
    · rw [show putL n wd = leB n.toNat wd.toNat by simp [putL, h1, h2]]
      obtain ⟨hw, hw'⟩ := mostI_ok h1 h2
      obtain ⟨m, rfl⟩ : ∃ m : Nat, wd = m := ⟨wd.toNat, by omega⟩
      obtain ⟨q, rfl⟩ : ∃ q : Nat, n = q := ⟨n.toNat, by omega⟩
      simp only [Int.toNat_natCast]
      have hm1 : 1 ≤ m := by omega
      have hm7 : m ≤ 7 := by omega
      have hq : q ≤ 72057594037927936 := by
        have : mostI m ≤ 256 ^ 7 := by
          unfold mostI
          rw [if_neg (by omega), if_neg (by omega)]
          have : (256 : Nat) ^ m ≤ 256 ^ 7 := Nat.pow_le_pow_right (by decide) hm7
          have h3 : ((256 ^ m : Nat) : Int) ≤ 256 ^ 7 := by omega
          simp at h3 ⊢
          omega
        omega
      clear hw hw'
      go_enter Tryd.func26, Tryd.ntmps26
      go_wp2_with (go_at_call 55; refine (rmost_any _ _).mono ?_; rintro e w' ⟨rfl, rfl⟩)
      go_loopw [0, 5, 6] (fun n v i wr => ∃ k : Nat, k ≤ m ∧ i = .int .i64 k ∧ n = .int .i64 (q / 256 ^ k : Nat) ∧ wr.ownsRow w.heap.size 5 1 v k (bvals (leB q k)) ∧ Below w.heap.size w wr) (fun _ _ i _ => m - (intOf i).toNat)
      case atStart => exact ⟨0, by omega, rfl, by simp, World.ownsRow_nil _ _ _ _, Below.refl _ _⟩
      case round =>
        obtain ⟨k, hk, rfl, rfl, hown, hbl⟩ := hrel
        have hp2 : q / 256 ^ k ≤ q := Nat.div_le_self _ _
        obtain ⟨p, hpe⟩ : ∃ p, q / 256 ^ k = p := ⟨_, rfl⟩
        rw [hpe] at hp2 ⊢
        have HP := Lib.hid hpe
        clear hpe
        by_cases hlt : k < m
        · have hsz := hbl.size
          go_wp2_with (at_builtin; refine wpList_app (P := Tryd.prog) _ rfl _ _ 62 rfl w.heap.size 5 (.int .u8 0) 1 1 Tryd.underlying62 Tryd.info5_ rfl (by decide) _ k _ rfl hown _ rfl rfl ?c1 ?c2 ?c3 hsz ?_)
          case c1 => intro u hu; simp at hu; subst hu; rfl
          case c2 => unfold maxLen; omega
          case c3 => omega
          intro v' w1 hown1 _ hb1
          have e1 : bvals (leB q k) ++ [Value.int .u8 ((p : Int) % 256)] = bvals (leB q (k + 1)) := by
            rw [leB_snoc, HP.out]
            simp [bvals]
          rw [e1] at hown1
          clear e1
          go_wp2
          go_roundw
          case rel => exact ⟨k + 1, by omega, by go_num, by rw [Nat.pow_succ, ← Nat.div_div_eq_div_mul, HP.out]; go_num, hown1, hbl.trans hb1⟩
          case measure => simp [intOf]; omega
        · obtain rfl : k = m := by omega
          have hcv := own_string (P := Tryd.prog) Tryd.underlying62 Tryd.underlying5 Tryd.underlying9 hown
          go_wp2
          go_ret
          exact ⟨rfl, hbl⟩

set_option maxHeartbeats 400000 in
theorem rftext_any (s : List UInt8) (wd : Int) (w : World) (hs : s.length ≤ 140737488355328) :
    Calls Tryd.prog 27 #[.string (bstr s), .int .i64 wd] w fun e w' => e = .returned (.string (bstr (textL s wd))) ∧ Below w.heap.size w w' := by
  unfold textL
  by_cases h : mostI wd < s.length
  · rw [if_pos h]
    go_enter Tryd.func27, Tryd.ntmps27
    go_wp2_with (go_at_call 55; refine (rmost_any _ _).mono ?_; rintro e w' ⟨rfl, rfl⟩)
    go_ret
    exact ⟨rfl, Below.refl _ _⟩
  · rw [if_neg h]
    have hp := putL_len s.length wd
    go_enter Tryd.func27, Tryd.ntmps27
    go_wp2_with (first | (go_at_call 55; refine (rmost_any _ _).mono ?_; rintro e w' ⟨rfl, rfl⟩) | (go_at_call 26; refine (rput_any _ _ _).mono ?_; rintro e w' ⟨rfl, hb⟩))
    go_ret
    exact ⟨ret_str (by rfl), hb⟩

end Go.Proofs.YtcamcjcmhjldpaaDoor
