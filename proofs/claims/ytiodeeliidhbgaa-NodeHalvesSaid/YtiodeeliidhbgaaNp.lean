/- Nodes of a tree, plain part: the order of keys, where a key stands; a node with an entry more, without one, its halves. -/
import Derived.Test.YtiodeeliidhbgaaNd6
namespace Go.Proofs.Ytiodeeliidhbgaa
open Go Go.RowKit
set_option linter.unusedSimpArgs false
set_option linter.unnecessarySimpa false
set_option linter.unusedVariables false

/-! the order of bytes -/
theorem bl_irr : ∀ a : List UInt8, Op.bytesLess a a = false
  | [] => rfl
  | x :: a => by simp [Op.bytesLess, bl_irr a]
theorem bl_trans : ∀ a b c : List UInt8, Op.bytesLess a b = true → Op.bytesLess b c = true → Op.bytesLess a c = true
  | _, _, [], _, h => by simp [Op.bytesLess] at h
  | _, [], _ :: _, h, _ => by simp [Op.bytesLess] at h
  | [], _ :: _, _ :: _, _, _ => by simp [Op.bytesLess]
  | x :: a, y :: b, z :: c, h, k => by
    simp only [Op.bytesLess, Bool.or_eq_true, Bool.and_eq_true, decide_eq_true_eq, beq_iff_eq] at h k ⊢
    rcases h with h | ⟨rfl, h⟩
    · rcases k with k | ⟨rfl, k⟩
      · exact .inl (UInt8.lt_trans h k)
      · exact .inl h
    · rcases k with k | ⟨rfl, k⟩
      · exact .inl k
      · exact .inr ⟨rfl, bl_trans a b c h k⟩
theorem bl_tri : ∀ a b : List UInt8, Op.bytesLess a b = false → Op.bytesLess b a = false → a = b
  | [], [], _, _ => rfl
  | [], _ :: _, h, _ => by simp [Op.bytesLess] at h
  | _ :: _, [], _, h => by simp [Op.bytesLess] at h
  | x :: a, y :: b, h, k => by
    simp only [Op.bytesLess, Bool.or_eq_false_iff, Bool.and_eq_false_iff, decide_eq_false_iff_not, beq_eq_false_iff_ne] at h k
    have e : x = y := UInt8.le_antisymm (UInt8.not_lt.1 k.1) (UInt8.not_lt.1 h.1)
    subst e
    rw [bl_tri a b (h.2.resolve_left (fun e => e rfl)) (k.2.resolve_left (fun e => e rfl))]
theorem bl_asym {a b : List UInt8} (h : Op.bytesLess a b = true) : Op.bytesLess b a = false := by
  rw [← Bool.not_eq_true]
  intro k
  have := bl_trans a b a h k
  rw [bl_irr] at this
  cases this
theorem bl_ne {a b : List UInt8} (h : Op.bytesLess a b = true) : a ≠ b := by
  rintro rfl
  rw [bl_irr] at h
  cases h
theorem bl_le_trans {a b c : List UInt8} (h : Op.bytesLess b a = false) (k : Op.bytesLess b c = true) : Op.bytesLess a c = true := by
  by_cases e : Op.bytesLess a b = true
  · exact bl_trans a b c e k
  · rw [bl_tri a b (by simpa using e) h]; exact k

/-! keys in order -/
def Ord (ks : List (List UInt8)) : Prop := ∀ i j, i < j → j < ks.length → Op.bytesLess (ks.getD i []) (ks.getD j []) = true
theorem ord_of_may {n : Nd} (h : mayB n = true) : Ord n.keys := by
  have h3 := ((mayB_iff n).1 h).2.2
  intro i j hij hj
  induction j with
  | zero => omega
  | succ j ih =>
    have h1 := h3 (j + 1) hj
    simp only [okB, Bool.and_eq_true, Bool.or_eq_true, decide_eq_true_eq] at h1
    have h2 : Op.bytesLess (n.keys.getD j []) (n.keys.getD (j + 1) []) = true := by
      rcases h1.2 with h | h
      · omega
      · exact h
    by_cases e : i = j
    · rw [e]; exact h2
    · exact bl_trans _ _ _ (ih (by omega) (by omega)) h2
/-- the first place that does not lie below a key -/
def lbN (key : List UInt8) : List (List UInt8) → Nat
  | [] => 0
  | k :: ks => if Op.bytesLess k key then lbN key ks + 1 else 0
theorem lb_lo (key : List UInt8) : ∀ (ks : List (List UInt8)) (j : Nat), j < lbN key ks → Op.bytesLess (ks.getD j []) key = true
  | [], j, h => by simp [lbN] at h
  | k :: ks, j, h => by
    rw [lbN] at h
    split at h
    · rename_i hk
      rcases j with _ | j
      · exact hk
      · exact lb_lo key ks j (by omega)
    · omega
theorem lb_le (key : List UInt8) : ∀ (ks : List (List UInt8)), lbN key ks ≤ ks.length
  | [] => Nat.le_refl _
  | k :: ks => by
    rw [lbN, List.length_cons]
    have := lb_le key ks
    split <;> omega
theorem lb_at (key : List UInt8) : ∀ (ks : List (List UInt8)), lbN key ks < ks.length → Op.bytesLess (ks.getD (lbN key ks) []) key = false
  | [], h => by simp at h
  | k :: ks, h => by
    by_cases hk : Op.bytesLess k key = true
    · have e : lbN key (k :: ks) = lbN key ks + 1 := by rw [lbN, if_pos hk]
      rw [e, List.length_cons] at h
      rw [e]
      exact lb_at key ks (by omega)
    · have e : lbN key (k :: ks) = 0 := by rw [lbN, if_neg hk]
      rw [e]
      simpa using hk
theorem parts_lb {ks : List (List UInt8)} (h : Ord ks) (key : List UInt8) : Parts ks key (lbN key ks) where
  le := lb_le key ks
  lo := lb_lo key ks
  hi := by
    intro j h1 h2
    have h0 := lb_at key ks (by omega)
    by_cases e : lbN key ks = j
    · rw [← e]; exact h0
    · have h3 := h _ _ (show lbN key ks < j by omega) h2
      rw [← Bool.not_eq_true]
      intro h4
      have := bl_trans _ _ _ h3 h4
      rw [h0] at this
      cases this
theorem parts_one {ks : List (List UInt8)} {key : List UInt8} {p q : Nat} (h : Parts ks key p) (k : Parts ks key q) : p = q := by
  rcases Nat.lt_trichotomy p q with e | e | e
  · have h1 := k.lo p e
    rw [h.hi p (Nat.le_refl _) (by have := k.le; omega)] at h1
    cases h1
  · exact e
  · have h1 := h.lo q e
    rw [k.hi q (Nat.le_refl _) (by have := h.le; omega)] at h1
    cases h1

/-! a node with an entry more, without one, its halves; where a key stands -/
def placeN (n : Nd) (key : List UInt8) : Nat := lbN key n.keys
def thereN (n : Nd) (key : List UInt8) : Bool := isAt n.keys key (placeN n key)
/-- how many entries have this key -/
def stepN (n : Nd) (key : List UInt8) : Nat := if thereN n key then 1 else 0
def findN (n : Nd) (key : List UInt8) : Nat × Bool := if mayB n then (if thereN n key then (placeN n key, true) else (placeN n key - 1, false)) else (0, false)
def withN (n : Nd) (key val : List UInt8) : Nd :=
  if mayB n && plB key val then ⟨n.leaf, n.keys.take (placeN n key) ++ key :: n.keys.drop (placeN n key + stepN n key), n.vals.take (placeN n key) ++ val :: n.vals.drop (placeN n key + stepN n key)⟩ else n
def withoutN (n : Nd) (key : List UInt8) : Nd :=
  if mayB n then ⟨n.leaf, n.keys.take (placeN n key) ++ n.keys.drop (placeN n key + stepN n key), n.vals.take (placeN n key) ++ n.vals.drop (placeN n key + stepN n key)⟩ else n
def emptyN : Nd := ⟨false, [], []⟩
/-- from a cut on: one further, as long as the first half with it is less than the second one without -/
def cutGo (ks vs : List (List UInt8)) (S : Nat) : Nat → Nat → Nat
  | 0, at_ => at_
  | f + 1, at_ => if at_ + 1 < ks.length ∧ sumN ks vs (at_ + 1) + sumN ks vs at_ < S then cutGo ks vs S f (at_ + 1) else at_
def cutN (n : Nd) : Nat := cutGo n.keys n.vals (sumN n.keys n.vals n.keys.length) n.keys.length 1
def halvesN (n : Nd) : Bool := mayB n && decide (2 ≤ n.keys.length)
def firstN (n : Nd) : Nd := if halvesN n then ⟨n.leaf, n.keys.take (cutN n), n.vals.take (cutN n)⟩ else emptyN
def secondN (n : Nd) : Nd := if halvesN n then ⟨n.leaf, n.keys.drop (cutN n), n.vals.drop (cutN n)⟩ else emptyN
end Go.Proofs.Ytiodeeliidhbgaa
