/- Package sum: Hex: its contract; live. -/
import Derived.Test.YtppckmfaidpliaaDoorSm5
namespace Go.Proofs.YtppckmfaidpliaaDoor
open Go.RowKit
set_option linter.unusedSimpArgs false
set_option linter.unnecessarySimpa false
set_option linter.unusedVariables false

def hexs : List UInt8 := [48, 49, 50, 51, 52, 53, 54, 55, 56, 57, 97, 98, 99, 100, 101, 102]
def hexD (n : Nat) : UInt8 := hexs.getD n 0
def hexB (b : UInt8) : List UInt8 := [hexD (b.toNat / 16), hexD (b.toNat % 16)]
def hexL (s : List UInt8) : List UInt8 := s.flatMap hexB
theorem hexL_len (s : List UInt8) : (hexL s).length = 2 * s.length := by
  induction s with
  | nil => rfl
  | cons b s ih => rw [hexL, List.flatMap_cons, List.length_append, ← hexL, ih, List.length_cons]; simp [hexB]; omega

theorem hexD_get (n : Nat) (h : n < [(48 : UInt8), 49, 50, 51, 52, 53, 54, 55, 56, 57, 97, 98, 99, 100, 101, 102].length) : [(48 : UInt8), 49, 50, 51, 52, 53, 54, 55, 56, 57, 97, 98, 99, 100, 101, 102][n] = hexD n := by
  unfold hexD hexs
  simp [List.getD, show n < 16 from h]
theorem and15 (b : UInt8) : bits .and .u8 (b.toNat : Int) 15 = ((b.toNat % 16 : Nat) : Int) := by
  have : ∀ n : Fin 256, bits .and .u8 (n.val : Int) 15 = ((n.val % 16 : Nat) : Int) := by decide +kernel
  exact this ⟨b.toNat, b.toNat_lt⟩
theorem run_hex (n : Nat) (hn : n < 16) (w : World) : (Instr.index 9 (.string ⟨#[48, 49, 50, 51, 52, 53, 54, 55, 56, 57, 97, 98, 99, 100, 101, 102]⟩) (.int .u8 (n : Int))).run Tryd.prog w = .ok (.int .u8 ((hexD n).toNat : Int)) w := by
  have : n = 0 ∨ n = 1 ∨ n = 2 ∨ n = 3 ∨ n = 4 ∨ n = 5 ∨ n = 6 ∨ n = 7 ∨ n = 8 ∨ n = 9 ∨ n = 10 ∨ n = 11 ∨ n = 12 ∨ n = 13 ∨ n = 14 ∨ n = 15 := by omega
  rcases this with rfl | rfl | rfl | rfl | rfl | rfl | rfl | rfl | rfl | rfl | rfl | rfl | rfl | rfl | rfl | rfl <;> rfl

set_option maxRecDepth 100000 in
set_option maxHeartbeats 2000000 in
theorem hex_any (s : List UInt8) (hs : s.length < 1000000) (w : World) :
    Calls Tryd.prog 12 #[.string (bstr s)] w fun e w' => e = .returned (.string (bstr (hexL s))) ∧ Below w.heap.size w w' := by
  obtain ⟨B, hB⟩ : ∃ B, w.heap.size = B := ⟨_, rfl⟩
  have hbl : BlAt B (w.alloc (.cells #[.pointer none, .slice none 0 0] 43)) B [] := by rw [← hB]; exact BlAt.new w
  have hb5 : Below w.heap.size w (w.alloc (.cells #[.pointer none, .slice none 0 0] 43)) := (Below.refl _ _).alloc (Nat.le_refl _) _
  have hBs : B < (w.alloc (.cells #[.pointer none, .slice none 0 0] 43)).heap.size := by simp; omega
  go_enter Tryd.func12, Tryd.ntmps12
  go_wp2_with fail
  go_loopw [7] (fun i wv => ∃ j : Nat, j ≤ s.length ∧ i = .int .i64 j ∧ BlAt B wv B (hexL (s.take j)) ∧ Below w.heap.size w wv ∧ B < wv.heap.size) (fun i _ => s.length - (intOf i).toNat)
  case atStart => exact ⟨0, by omega, rfl, hbl, hb5, hBs⟩
  case round =>
    clear hbl hb5 hBs
    obtain ⟨j, hj, rfl, hbl, hbv, hBv⟩ := hrel
    by_cases hlt : j < s.length
    · have q1 : decide ((j : Int) < s.length) = true := decide_eq_true (by omega)
      obtain ⟨b, hb⟩ : ∃ b, s[j] = b := ⟨_, rfl⟩
      have hlj : (hexL (s.take j)).length ≤ 2000000 := by rw [hexL_len, List.length_take]; omega
      have htk : hexL (s.take (j + 1)) = hexL (s.take j) ++ [hexD (b.toNat / 16)] ++ [hexD (b.toNat % 16)] := by
        rw [List.take_succ_eq_append_getElem hlt, hexL, List.flatMap_append, ← hexL, hb]
        simp [hexB]
      have HTK := Lib.hid htk
      clear htk
      have hb0 := b.toNat_lt
      have hand := and15 b
      go_wp2_with fail
      refine (wbyte_any B B _ _ wr hbl (by omega) (by omega)).mono ?_
      rintro e w1 ⟨rfl, hbl1, hb1⟩
      simp only [hexD_get] at hbl1
      have hlB := hbl1.lt.2
      go_wp2_with fail
      refine (wbyte_any B B _ _ w1 hbl1 (by rw [List.length_append]; simp; omega) (by omega)).mono ?_
      rintro e w2 ⟨rfl, hbl2, hb2⟩
      simp only [hexD_get] at hbl2
      have hl2 := hbl2.lt.2
      have hb3 : Below w.heap.size w w2 := hbv.trans (hB ▸ hb1.trans hb2)
      rw [← HTK.out] at hbl2
      go_wp2
      go_round
      case rel => exact ⟨j + 1, by omega, by go_num, hbl2, hb3, hl2⟩
      case measure => simp [intOf]; omega
    · have q1 : decide ((j : Int) < s.length) = false := decide_eq_false (by omega)
      have hjs : s.take j = s := List.take_of_length_le (by omega)
      rw [hjs] at hbl
      go_wp2_with fail
      refine (bstring_any B B _ wr hbl (by omega)).mono ?_
      rintro e w7 ⟨rfl, hb7⟩
      go_wp2
      go_ret
      exact ⟨rfl, hbv.trans (hB ▸ hb7)⟩

end Go.Proofs.YtppckmfaidpliaaDoor
