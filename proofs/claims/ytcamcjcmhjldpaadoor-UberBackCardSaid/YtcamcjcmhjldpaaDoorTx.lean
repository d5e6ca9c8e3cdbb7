/- Texts that are put and read: plain laws (out of XNq). -/
import Derived.Test.YtcamcjcmhjldpaaDoorRd2
namespace Go.Proofs.YtcamcjcmhjldpaaDoor
open Go Go.RowKit
set_option linter.unusedSimpArgs false
set_option linter.unnecessarySimpa false
set_option linter.unusedVariables false

theorem number_cat {n wd : Int} (h1 : 1 ≤ wd) (h7 : wd ≤ 7) (h0 : 0 ≤ n) (hn : n ≤ mostI wd) (rest : List UInt8) : Rd.number ⟨putL n wd ++ rest, 0⟩ wd = (n, ⟨rest, 0⟩) := by
  obtain ⟨m, rfl⟩ : ∃ m : Nat, wd = m := ⟨wd.toNat, by omega⟩
  obtain ⟨q, rfl⟩ : ∃ q : Nat, n = q := ⟨n.toNat, by omega⟩
  rw [mostI_nat (by omega) (by omega)] at hn
  have hp : 0 < 256 ^ m := Nat.pow_pos (by decide)
  have hq : q < 256 ^ m := by omega
  have e : putL (q : Int) m = leB q m := by
    unfold putL
    rw [if_neg (by omega), mostI_nat (by omega) (by omega), if_neg (by omega)]
    simp
  have hm : ¬ mostI (m : Int) < 0 := by rw [mostI_nat (by omega) (by omega)]; omega
  unfold Rd.number Rd.take
  rw [if_neg hm, e]
  simp only [ne_eq, not_true_eq_false, if_false]
  rw [if_neg (by simp [length_leB]; omega)]
  have hl := length_leB q m
  have e1 : (leB q m ++ rest).take m = leB q m := by rw [List.take_append_of_le_length (by omega), List.take_of_length_le (by omega)]
  have e2 : (leB q m ++ rest).drop m = rest := by rw [List.drop_append_of_le_length (by omega), List.drop_of_length_le (by omega)]; rfl
  simp only [Int.toNat_natCast, e1, e2, leN_leB q m hq]
theorem bytes_cat (s rest : List UInt8) : Rd.bytes ⟨s ++ rest, 0⟩ s.length = (s, ⟨rest, 0⟩) := by
  unfold Rd.bytes Rd.take
  have h0 : ¬ ((s.length : Nat) : Int) < 0 := by omega
  rw [if_neg h0]
  simp only [ne_eq, not_true_eq_false, if_false]
  have hle : ¬ (((s ++ rest).length : Nat) : Int) < (s.length : Int) := by rw [List.length_append]; omega
  rw [if_neg hle]
  simp

theorem putL_leB {n wd : Nat} (h1 : 1 ≤ wd) (h7 : wd ≤ 7) (hn : n < 256 ^ wd) : putL n wd = leB n wd := by
  unfold putL
  rw [if_neg (by omega), mostI_nat h1 h7, if_neg (by omega)]
  simp
theorem leB_leN : ∀ (q : List UInt8), leB (leN q) q.length = q
  | [] => rfl
  | b :: q => by
    have hb := b.toNat_lt
    have e1 : (b.toNat + 256 * leN q) % 256 = b.toNat := by omega
    have e2 : (b.toNat + 256 * leN q) / 256 = leN q := by omega
    simp only [leN, List.length_cons, leB, e1, e2, leB_leN q]
    simp
/-- a number that is read without an error: its bytes stood there -/
theorem num_ok {r r' : Rd} {v : Int} {wd : Nat} (h1 : 1 ≤ wd) (h7 : wd ≤ 7) (h : r.number wd = (v, r')) (he : r'.e = 0) : r.e = 0 ∧ r.s = putL v wd ++ r'.s ∧ 0 ≤ v := by
  have hm : ¬ mostI (wd : Int) < 0 := by
    have : 0 < 256 ^ wd := Nat.pow_pos (by decide)
    rw [mostI_nat h1 h7]; omega
  unfold Rd.number Rd.take at h
  rw [if_neg hm] at h
  by_cases e0 : r.e = 0
  · simp only [e0, ne_eq, not_true_eq_false, if_false] at h
    by_cases hl : (r.s.length : Int) < wd
    · rw [if_pos hl] at h
      simp only [Prod.mk.injEq] at h
      rw [← h.2] at he
      exact absurd (show (2 : Int) = 0 from he) (by decide)
    · rw [if_neg hl] at h
      simp only [Prod.mk.injEq, Int.toNat_natCast] at h
      obtain ⟨rfl, rfl⟩ := h
      have hlen : (r.s.take wd).length = wd := by rw [List.length_take]; omega
      have hlt := leN_lt (r.s.take wd)
      rw [hlen] at hlt
      have e1 := leB_leN (r.s.take wd)
      rw [hlen] at e1
      refine ⟨e0, ?_, by omega⟩
      rw [putL_leB h1 h7 hlt, e1]
      simp
  · rw [if_pos e0] at h
    simp only [Prod.mk.injEq] at h
    rw [← h.2] at he
    exact absurd he e0
theorem byt_ok {r r' : Rd} {q : List UInt8} {n : Nat} (h : r.bytes n = (q, r')) (he : r'.e = 0) : r.e = 0 ∧ r.s = q ++ r'.s ∧ q.length = n := by
  unfold Rd.bytes Rd.take at h
  have h0 : ¬ (n : Int) < 0 := by omega
  rw [if_neg h0] at h
  by_cases e0 : r.e = 0
  · simp only [e0, ne_eq, not_true_eq_false, if_false] at h
    by_cases hl : (r.s.length : Int) < n
    · rw [if_pos hl] at h
      simp only [Prod.mk.injEq] at h
      rw [← h.2] at he
      exact absurd (show (2 : Int) = 0 from he) (by decide)
    · rw [if_neg hl] at h
      simp only [Prod.mk.injEq, Int.toNat_natCast] at h
      obtain ⟨rfl, rfl⟩ := h
      exact ⟨e0, by simp, by rw [List.length_take]; omega⟩
  · rw [if_pos e0] at h
    simp only [Prod.mk.injEq] at h
    rw [← h.2] at he
    exact absurd he e0
theorem fin_err {r : Rd} (h : r.e ≠ 0) : r.fin = r.e := by unfold Rd.fin; rw [if_neg (by simp [h])]
theorem number_keep {r : Rd} (h : r.e ≠ 0) (wd : Int) : r.number wd = (0, r) := by
  obtain ⟨q, e⟩ := r
  exact Rd.number_err q e wd h
theorem bytes_keep {r : Rd} (h : r.e ≠ 0) (n : Int) : r.bytes n = ([], r) := by
  unfold Rd.bytes Rd.take
  rw [if_pos h]

theorem text_cat {s : List UInt8} {wd : Nat} (h1 : 1 ≤ wd) (h7 : wd ≤ 7) (hs : s.length < 256 ^ wd) (rest : List UInt8) : Rd.text ⟨textL s wd ++ rest, 0⟩ wd = (s, ⟨rest, 0⟩) := by
  have hm : mostI (wd : Int) = (256 ^ wd - 1 : Nat) := mostI_nat h1 h7
  unfold Rd.text
  have e : textL s wd = putL s.length wd ++ s := by unfold textL; rw [if_neg (by rw [hm]; omega)]
  rw [e, List.append_assoc, number_cat (by omega) (by omega) (by omega) (by rw [hm]; omega)]
  exact bytes_cat s rest
theorem text_ok {r r' : Rd} {t : List UInt8} {wd : Nat} (h1 : 1 ≤ wd) (h7 : wd ≤ 7) (h : r.text wd = (t, r')) (he : r'.e = 0) : r.e = 0 ∧ r.s = textL t wd ++ r'.s ∧ t.length < 256 ^ wd := by
  unfold Rd.text at h
  obtain ⟨⟨n, ra⟩, hn⟩ : ∃ x, r.number wd = x := ⟨_, rfl⟩
  rw [hn] at h
  simp only at h
  have hn0 : 0 ≤ n := by
    have : (r.number wd).1 = n := by rw [hn]
    rw [← this]
    unfold Rd.number
    simp
  obtain ⟨m, rfl⟩ : ∃ m : Nat, n = m := ⟨n.toNat, by omega⟩
  obtain ⟨e1, e2, e3⟩ := byt_ok h he
  obtain ⟨f1, f2, _⟩ := num_ok h1 h7 hn e1
  have hlt : m < 256 ^ wd := by
    have h5 : (r.number wd).1 = (m : Int) := by rw [hn]
    unfold Rd.number at h5
    have h6 := leN_lt (r.take wd (if mostI wd < 0 then 1 else 0)).1
    have h7' := (Rd.take_len r wd (if mostI wd < 0 then 1 else 0)).1
    have h8 : 256 ^ (r.take wd (if mostI wd < 0 then 1 else 0)).1.length ≤ 256 ^ wd := Nat.pow_le_pow_right (by decide) (by simpa using h7')
    simp only at h5
    omega
  refine ⟨f1, ?_, by omega⟩
  rw [f2, e2, ← List.append_assoc]
  congr 1
  unfold textL
  rw [if_neg (by rw [mostI_nat h1 h7]; omega), e3]
theorem text_keep {r : Rd} (h : r.e ≠ 0) (wd : Int) : r.text wd = ([], r) := by
  unfold Rd.text
  rw [number_keep h]
  exact bytes_keep h 0

end Go.Proofs.YtcamcjcmhjldpaaDoor
