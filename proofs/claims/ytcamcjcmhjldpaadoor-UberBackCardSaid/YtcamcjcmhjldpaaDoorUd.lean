/- Roots on devices, plain part: what is written, flushed, crashed, spoilt; the best root. -/
import Derived.Test.YtcamcjcmhjldpaaDoorUb
import Derived.Test.YtcamcjcmhjldpaaDoorDvJ
namespace Go.Proofs.YtcamcjcmhjldpaaDoor
open Go Go.RowKit
set_option linter.unusedSimpArgs false
set_option linter.unnecessarySimpa false
set_option linter.unusedVariables false

/-! devices on which nothing waits -/
def clD (a b : List (List UInt8)) : Dv := ⟨a, b, false, false, []⟩
theorem mayE_cl {d : Dv} (h0 : d.l0 = false) (h1 : d.l1 = false) {dev : Int} {p : Nat} {s : List UInt8} (hd : dev = 0 ∨ dev = 1) (hp : p < (d.sec dev).length) (hs : s.length ≤ 1024) : mayE d ⟨dev, p⟩ s = 0 := by
  unfold mayE
  rw [if_neg, if_neg]
  · rcases hd with rfl | rfl <;> simp [Dv.gone, h0, h1]
  · rcases hd with rfl | rfl
    · simp [isB]; omega
    · simp [isB]; omega
/-- a root is written to both devices -/
def Dv.uw (d : Dv) (p : Nat) (s : List UInt8) : Dv := (d.write ⟨0, p⟩ s).write ⟨1, p⟩ s
theorem uw_cl {a b : List (List UInt8)} {p : Nat} {s : List UInt8} (ha : p < a.length) (hb : p < b.length) (hs : s.length ≤ 1024) : (clD a b).uw p s = ⟨a, b, false, false, [⟨⟨0, p⟩, s⟩, ⟨⟨1, p⟩, s⟩]⟩ := by
  have h1 : (clD a b).write ⟨0, p⟩ s = ⟨a, b, false, false, [⟨⟨0, p⟩, s⟩]⟩ := by
    unfold Dv.write
    rw [if_pos (mayE_cl rfl rfl (.inl rfl) (by simpa [Dv.sec, clD] using ha) hs)]
    rfl
  unfold Dv.uw
  rw [h1]
  unfold Dv.write
  rw [if_pos (mayE_cl rfl rfl (.inr rfl) (by simpa [Dv.sec] using hb) hs)]
  rfl
theorem uw_flush {a b : List (List UInt8)} {p : Nat} {s : List UInt8} (ha : p < a.length) (hb : p < b.length) (hs : s.length ≤ 1024) : ((clD a b).uw p s).flush = clD (a.set p s) (b.set p s) := by
  rw [uw_cl ha hb hs]
  simp [Dv.flush, Dv.settle, Dv.put, clD]
theorem uw_crash {a b : List (List UInt8)} {p : Nat} {s : List UInt8} (ha : p < a.length) (hb : p < b.length) (hs : s.length ≤ 1024) (kl : List Bool) : ((clD a b).uw p s).crash kl = clD (if kpB kl 0 then a.set p s else a) (if kpB kl 1 then b.set p s else b) := by
  rw [uw_cl ha hb hs]
  cases h0 : kpB kl 0 <;> cases h1 : kpB kl 1 <;> simp [Dv.crash, Dv.settle, Dv.put, clD, h0, h1]
theorem spoil_cl0 {a b : List (List UInt8)} {p : Nat} {s : List UInt8} (ha : p < a.length) (hs : s.length ≤ 1024) : (clD a b).spoilAt ⟨0, p⟩ s = clD (a.set p s) b := by
  unfold Dv.spoilAt
  rw [if_pos (mayE_cl rfl rfl (.inl rfl) (by simpa [Dv.sec, clD] using ha) hs)]
  simp [Dv.spoil, Dv.put, clD]
theorem spoil_cl1 {a b : List (List UInt8)} {p : Nat} {s : List UInt8} (hb : p < b.length) (hs : s.length ≤ 1024) : (clD a b).spoilAt ⟨1, p⟩ s = clD a (b.set p s) := by
  unfold Dv.spoilAt
  rw [if_pos (mayE_cl rfl rfl (.inr rfl) (by simpa [Dv.sec, clD] using hb) hs)]
  simp [Dv.spoil, Dv.put, clD]
/-- what a device tells at a place of the ring -/
def ringD (d : Dv) (k : Nat) : List UInt8 := (d.read ⟨(k / 4 : Nat), (k % 4 : Nat)⟩).1
theorem ring_cl0 {a b : List (List UInt8)} (ha : 4 ≤ a.length) {k : Nat} (hk : k < 4) : ringD (clD a b) k = a.getD k [] := by
  unfold ringD Dv.read
  rw [Nat.div_eq_of_lt hk, Nat.mod_eq_of_lt hk, show ((0 : Nat) : Int) = 0 from rfl, if_pos (mayE_cl rfl rfl (.inl rfl) (by simp [Dv.sec, clD]; omega) (by simp))]
  simp [Dv.look, clD, Dv.sec]
theorem ring_cl1 {a b : List (List UInt8)} (hb : 4 ≤ b.length) {k : Nat} (h4 : 4 ≤ k) (hk : k < 8) : ringD (clD a b) k = b.getD (k - 4) [] := by
  unfold ringD Dv.read
  have e1 : k / 4 = 1 := by omega
  have e2 : k % 4 = k - 4 := by omega
  rw [e1, e2, show ((1 : Nat) : Int) = 1 from rfl, if_pos (mayE_cl rfl rfl (.inr rfl) (by simp [Dv.sec, clD]; omega) (by simp))]
  simp [Dv.look, clD, Dv.sec]
theorem ring_lost0 {a b : List (List UInt8)} (hb : 4 ≤ b.length) {k : Nat} (hk : k < 8) : ringD ((clD a b).lose 0) k = if k < 4 then [] else b.getD (k - 4) [] := by
  unfold ringD Dv.read
  by_cases h : k < 4
  · rw [if_pos h, if_neg]
    rw [Nat.div_eq_of_lt h]
    unfold mayE
    split
    · decide
    · simp [Dv.lose, Dv.gone, clD]
  · have e1 : k / 4 = 1 := by omega
    have e2 : k % 4 = k - 4 := by omega
    rw [if_neg h, e1, e2, if_pos]
    · simp [Dv.look, Dv.lose, clD, Dv.sec]
    · unfold mayE
      rw [if_neg, if_neg]
      · simp [Dv.lose, Dv.gone, clD]
      · simp [isB, Dv.lose, clD, Dv.sec]; omega
theorem ring_lost1 {a b : List (List UInt8)} (ha : 4 ≤ a.length) {k : Nat} (hk : k < 8) : ringD ((clD a b).lose 1) k = if k < 4 then a.getD k [] else [] := by
  unfold ringD Dv.read
  by_cases h : k < 4
  · rw [if_pos h, Nat.div_eq_of_lt h, Nat.mod_eq_of_lt h, if_pos]
    · simp [Dv.look, Dv.lose, clD, Dv.sec]
    · unfold mayE
      rw [if_neg, if_neg]
      · simp [Dv.lose, Dv.gone, clD]
      · simp [isB, Dv.lose, clD, Dv.sec]; omega
  · have e1 : k / 4 = 1 := by omega
    rw [if_neg h, e1, if_neg]
    unfold mayE
    split
    · decide
    · simp [Dv.lose, Dv.gone, clD]

/-! the best root -/
def bestS (b : Ub) (k : Nat) (s : List UInt8) : Ub := if (ubD s).2 = 0 ∧ (ubD s).1.txg % 4 = (k % 4 : Nat) ∧ b.txg < (ubD s).1.txg then (ubD s).1 else b
def bestG (f : Nat → List UInt8) : Nat → Ub
  | 0 => ⟨-1, []⟩
  | k + 1 => bestS (bestG f k) k (f k)
def bestU (d : Dv) : Ub := bestG (ringD d) 8
def bestR (d : Dv) : Ub × Bool := if bestU d = ⟨-1, []⟩ then (zUb, false) else (bestU d, true)
theorem best_none {f : Nat → List UInt8} : ∀ k, (∀ j, j < k → (ubD (f j)).2 ≠ 0) → bestG f k = ⟨-1, []⟩
  | 0, _ => rfl
  | k + 1, h => by
    rw [bestG, best_none k (fun j hj => h j (by omega))]
    unfold bestS
    rw [if_neg (fun e => h k (by omega) e.1)]
/-- what is best among the first k: none, or one of them -/
theorem best_one {f : Nat → List UInt8} {U : Ub} (h0 : 0 ≤ U.txg) : ∀ k, (∀ j, j < k → ∀ u, ubD (f j) = (u, 0) → u.txg % 4 = (j % 4 : Nat) → u = U ∨ u.txg < U.txg) → (bestG f k).txg < U.txg ∨ bestG f k = U
  | 0, _ => .inl (by show (-1 : Int) < U.txg; omega)
  | k + 1, h => by
    rw [bestG]
    unfold bestS
    split
    · rename_i hc
      obtain ⟨c1, c2, _⟩ := hc
      obtain ⟨⟨u, e⟩, hd⟩ : ∃ x, ubD (f k) = x := ⟨_, rfl⟩
      rw [hd] at c1 c2 ⊢
      simp only at c1 c2 ⊢
      subst c1
      rcases h k (by omega) u hd c2 with h1 | h1
      · exact .inr h1
      · exact .inl h1
    · exact best_one h0 k (fun j hj => h j (by omega))
theorem best_keep {f : Nat → List UInt8} {U : Ub} : ∀ k m, (∀ j, j < k + m → ∀ u, ubD (f j) = (u, 0) → u.txg % 4 = (j % 4 : Nat) → u = U ∨ u.txg < U.txg) → bestG f k = U → bestG f (k + m) = U
  | _, 0, _, h => h
  | k, m + 1, h, e => by
    rw [← Nat.add_assoc, bestG, best_keep k m (fun j hj => h j (by omega)) e]
    unfold bestS
    rw [if_neg]
    rintro ⟨c1, c2, c3⟩
    obtain ⟨⟨u, e⟩, hd⟩ : ∃ x, ubD (f (k + m)) = x := ⟨_, rfl⟩
    rw [hd] at c1 c2 c3
    simp only at c1 c2 c3
    subst c1
    rcases h (k + m) (by omega) u hd c2 with h1 | h1
    · rw [h1] at c3; omega
    · omega
theorem best_is {f : Nat → List UInt8} {U : Ub} {p : Nat} (hp : p < 8) (h0 : 0 ≤ U.txg) (hU : ubD (f p) = (U, 0)) (hm : U.txg % 4 = (p % 4 : Nat)) (h : ∀ j, j < 8 → ∀ u, ubD (f j) = (u, 0) → u.txg % 4 = (j % 4 : Nat) → u = U ∨ u.txg < U.txg) : bestG f 8 = U := by
  obtain ⟨m, hm8⟩ : ∃ m, 8 = p + 1 + m := ⟨7 - p, by omega⟩
  rw [hm8]
  refine best_keep (p + 1) m (by rw [← hm8]; exact h) ?_
  rw [bestG]
  unfold bestS
  rw [hU]
  simp only
  rcases best_one h0 p (fun j hj => h j (by omega)) with h1 | h1
  · rw [if_pos ⟨trivial, hm, h1⟩]
  · rw [h1, if_neg (by omega)]
theorem ubD_nil : ubD [] = (zUb, 2) := rfl
theorem bestR_is {d : Dv} {U : Ub} (h : bestU d = U) (h0 : 0 ≤ U.txg) : bestR d = (U, true) := by
  unfold bestR
  rw [h, if_neg]
  rintro rfl
  simp at h0
theorem bestR_none {d : Dv} (h : bestU d = ⟨-1, []⟩) : bestR d = (zUb, false) := by
  unfold bestR
  rw [if_pos h]
end Go.Proofs.YtcamcjcmhjldpaaDoor
