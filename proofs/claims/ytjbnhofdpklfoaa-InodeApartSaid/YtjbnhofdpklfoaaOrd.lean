/- Keys in order: pure facts of the bytes of keys, entries and chunks. -/
import Derived.Test.YtjbnhofdpklfoaaLv15
namespace Go.Proofs.Ytjbnhofdpklfoaa
open Go.RowKit
set_option linter.unusedSimpArgs false
set_option linter.unnecessarySimpa false
set_option linter.unusedVariables false

theorem less_same (a : UInt8) (x y : List UInt8) : Op.bytesLess (a :: x) (a :: y) = Op.bytesLess x y := by
  simp [Op.bytesLess]
theorem less_cons (a b : UInt8) (x y : List UInt8) : Op.bytesLess (a :: x) (b :: y) = (decide (a.toNat < b.toNat) || (decide (a.toNat = b.toNat) && Op.bytesLess x y)) := by
  simp only [Op.bytesLess, UInt8.lt_iff_toNat_lt]
  congr 2
  rw [Bool.eq_iff_iff]
  simp [UInt8.toNat_inj]
theorem be4_less (n m : Nat) (hn : n < 4294967296) (hm : m < 4294967296) (s t : List UInt8) :
    Op.bytesLess (be4 n ++ s) (be4 m ++ t) = (decide (n < m) || (decide (n = m) && Op.bytesLess s t)) := by
  rw [be4_eq, be4_eq]
  simp only [List.cons_append, List.nil_append, less_cons, UInt8.toNat_ofNat', Nat.reducePow, Nat.mod_mod]
  generalize Op.bytesLess s t = c
  rw [Bool.eq_iff_iff]
  have e1 : n = 256 * (n / 256) + n % 256 := by omega
  have e2 : n / 256 = 256 * (n / 65536) + n / 256 % 256 := by omega
  have e3 : n / 65536 = 256 * (n / 16777216 % 256) + n / 65536 % 256 := by omega
  have f1 : m = 256 * (m / 256) + m % 256 := by omega
  have f2 : m / 256 = 256 * (m / 65536) + m / 256 % 256 := by omega
  have f3 : m / 65536 = 256 * (m / 16777216 % 256) + m / 65536 % 256 := by omega
  have a0 : n % 256 < 256 := by omega
  have a1 : n / 256 % 256 < 256 := by omega
  have a2 : n / 65536 % 256 < 256 := by omega
  have b0 : m % 256 < 256 := by omega
  have b1 : m / 256 % 256 < 256 := by omega
  have b2 : m / 65536 % 256 < 256 := by omega
  generalize n / 16777216 % 256 = x3 at *
  generalize n / 65536 % 256 = x2 at *
  generalize n / 256 % 256 = x1 at *
  generalize n % 256 = x0 at *
  generalize m / 16777216 % 256 = y3 at *
  generalize m / 65536 % 256 = y2 at *
  generalize m / 256 % 256 = y1 at *
  generalize m % 256 = y0 at *
  generalize n / 65536 = n2 at *
  generalize n / 256 = n1 at *
  generalize m / 65536 = m2 at *
  generalize m / 256 = m1 at *
  simp only [Bool.or_eq_true, Bool.and_eq_true, decide_eq_true_eq]
  subst e3 e2 f3 f2
  subst e1 f1
  rcases Nat.lt_trichotomy x3 y3 with h | rfl | h
  · exact ⟨fun _ => .inl (by omega), fun _ => .inl h⟩
  · rcases Nat.lt_trichotomy x2 y2 with h | rfl | h
    · exact ⟨fun _ => .inl (by omega), fun _ => .inr ⟨rfl, .inl h⟩⟩
    · rcases Nat.lt_trichotomy x1 y1 with h | rfl | h
      · exact ⟨fun _ => .inl (by omega), fun _ => .inr ⟨rfl, .inr ⟨rfl, .inl h⟩⟩⟩
      · constructor
        · rintro (h | ⟨_, h | ⟨_, h | ⟨_, h | ⟨h, h'⟩⟩⟩⟩)
          · omega
          · omega
          · omega
          · exact .inl (by omega)
          · exact .inr ⟨by omega, h'⟩
        · rintro (h | ⟨h, h'⟩)
          · exact .inr ⟨rfl, .inr ⟨rfl, .inr ⟨rfl, .inl (by omega)⟩⟩⟩
          · exact .inr ⟨rfl, .inr ⟨rfl, .inr ⟨rfl, .inr ⟨by omega, h'⟩⟩⟩⟩
      · constructor
        · rintro (h | ⟨_, h | ⟨_, h | ⟨_, h | ⟨h, h'⟩⟩⟩⟩) <;> omega
        · rintro (h | ⟨h, h'⟩) <;> omega
    · constructor
      · rintro (h | ⟨_, h | ⟨_, h | ⟨_, h | ⟨h, h'⟩⟩⟩⟩) <;> omega
      · rintro (h | ⟨h, h'⟩) <;> omega
  · constructor
    · rintro (h | ⟨_, h | ⟨_, h | ⟨_, h | ⟨h, h'⟩⟩⟩⟩) <;> omega
    · rintro (h | ⟨h, h'⟩) <;> omega
theorem be4_inj (n m : Nat) (hn : n < 4294967296) (hm : m < 4294967296) (s t : List UInt8) : (be4 n ++ s = be4 m ++ t) ↔ (n = m ∧ s = t) := by
  rw [be4_eq, be4_eq]
  simp only [List.cons_append, List.nil_append, List.cons.injEq, ← UInt8.toNat_inj, UInt8.toNat_ofNat', Nat.reducePow, Nat.mod_mod]
  constructor
  · rintro ⟨h1, h2, h3, h4, h5⟩
    exact ⟨by omega, h5⟩
  · rintro ⟨rfl, rfl⟩
    exact ⟨rfl, rfl, rfl, rfl, rfl⟩
theorem inB_of {n : Int} (h0 : 0 ≤ n) (h1 : n ≤ 2147483648) : inB n = true := inB_true.2 ⟨h0, h1⟩
theorem key_at {n : Int} (h0 : 0 ≤ n) (h1 : n ≤ 2147483648) : keyL n = 105 :: (be4 n.toNat ++ []) := by simp [keyL, inB_of h0 h1]
theorem chunk_at {n k : Int} (h0 : 0 ≤ n) (h1 : n ≤ 2147483648) (h2 : 0 ≤ k) (h3 : k ≤ 2147483648) : chunkL n k = 99 :: (be4 n.toNat ++ (be4 k.toNat ++ [])) := by simp [chunkL, inB_of h0 h1, inB_of h2 h3]
theorem entry_at {n : Int} {s : List UInt8} (h0 : 0 ≤ n) (h1 : n ≤ 2147483648) (h2 : s ≠ []) (h3 : s.length ≤ 255) : entryL n s = 100 :: (be4 n.toNat ++ s) := by simp [entryL, inB_of h0 h1, h2, h3]
theorem less_nil : Op.bytesLess [] [] = false := rfl

theorem key_less {n m : Int} (h0 : 0 ≤ n) (h1 : n ≤ 2147483648) (h2 : 0 ≤ m) (h3 : m ≤ 2147483648) : Op.bytesLess (keyL n) (keyL m) = decide (n < m) := by
  rw [key_at h0 h1, key_at h2 h3, less_same, be4_less _ _ (by omega) (by omega), less_nil, Bool.eq_iff_iff]
  simp; omega
theorem chunk_less {n m : Int} (h0 : 0 ≤ n) (h1 : n ≤ 2147483648) (h2 : 0 ≤ m) (h3 : m ≤ 2147483648) : Op.bytesLess (chunkL 5 n) (chunkL 5 m) = decide (n < m) := by
  rw [chunk_at (by omega) (by omega) h0 h1, chunk_at (by omega) (by omega) h2 h3, less_same, be4_less _ _ (by omega) (by omega), be4_less _ _ (by omega) (by omega), less_nil, Bool.eq_iff_iff]
  simp; omega
theorem entry_less {n m : Int} {a b : List UInt8} (h0 : 0 ≤ n) (h1 : n ≤ 2147483648) (h2 : 0 ≤ m) (h3 : m ≤ 2147483648) (ha : a ≠ []) (hb : b ≠ []) (ha2 : a.length ≤ 255) (hb2 : b.length ≤ 255) :
    Op.bytesLess (entryL n a) (entryL m b) = (decide (n < m) || (decide (n = m) && Op.bytesLess a b)) := by
  rw [entry_at h0 h1 ha ha2, entry_at h2 h3 hb hb2, less_same, be4_less _ _ (by omega) (by omega), Bool.eq_iff_iff]
  simp only [Bool.or_eq_true, Bool.and_eq_true, decide_eq_true_eq]
  constructor
  · rintro (h | ⟨h, h'⟩)
    · exact .inl (by omega)
    · exact .inr ⟨by omega, h'⟩
  · rintro (h | ⟨h, h'⟩)
    · exact .inl (by omega)
    · exact .inr ⟨by omega, h'⟩

theorem key_entry {n m : Int} {b : List UInt8} (h0 : 0 ≤ n) (h1 : n ≤ 2147483648) (h2 : 0 ≤ m) (h3 : m ≤ 2147483648) (hb : b ≠ []) (hb2 : b.length ≤ 255) : keyL n ≠ entryL m b := by
  rw [key_at h0 h1, entry_at h2 h3 hb hb2]; intro h; injection h with h; exact absurd h (by decide)
theorem key_chunk {n m k : Int} (h0 : 0 ≤ n) (h1 : n ≤ 2147483648) (h2 : 0 ≤ m) (h3 : m ≤ 2147483648) (h4 : 0 ≤ k) (h5 : k ≤ 2147483648) : keyL n ≠ chunkL m k := by
  rw [key_at h0 h1, chunk_at h2 h3 h4 h5]; intro h; injection h with h; exact absurd h (by decide)
theorem entry_chunk {n m k : Int} {b : List UInt8} (h0 : 0 ≤ n) (h1 : n ≤ 2147483648) (h2 : 0 ≤ m) (h3 : m ≤ 2147483648) (h4 : 0 ≤ k) (h5 : k ≤ 2147483648) (hb : b ≠ []) (hb2 : b.length ≤ 255) : entryL n b ≠ chunkL m k := by
  rw [entry_at h0 h1 hb hb2, chunk_at h2 h3 h4 h5]; intro h; injection h with h; exact absurd h (by decide)
theorem entry_same {n m : Int} {a b : List UInt8} (h0 : 0 ≤ n) (h1 : n ≤ 2147483648) (h2 : 0 ≤ m) (h3 : m ≤ 2147483648) (ha : a ≠ []) (hb : b ≠ []) (ha2 : a.length ≤ 255) (hb2 : b.length ≤ 255) :
    entryL n a = entryL m b ↔ (n = m ∧ a = b) := by
  rw [entry_at h0 h1 ha ha2, entry_at h2 h3 hb hb2, List.cons.injEq, be4_inj _ _ (by omega) (by omega)]
  constructor
  · rintro ⟨-, h, h'⟩; exact ⟨by omega, h'⟩
  · rintro ⟨rfl, rfl⟩; exact ⟨rfl, rfl, rfl⟩
theorem chunk_same {n m : Int} (h0 : 0 ≤ n) (h1 : n ≤ 2147483648) (h2 : 0 ≤ m) (h3 : m ≤ 2147483648) : chunkL n 1 = chunkL m 1 ↔ n = m := by
  rw [chunk_at h0 h1 (by omega) (by omega), chunk_at h2 h3 (by omega) (by omega), List.cons.injEq, be4_inj _ _ (by omega) (by omega)]
  constructor
  · rintro ⟨-, h, -⟩; omega
  · rintro rfl; exact ⟨rfl, rfl, rfl⟩

end Go.Proofs.Ytjbnhofdpklfoaa
