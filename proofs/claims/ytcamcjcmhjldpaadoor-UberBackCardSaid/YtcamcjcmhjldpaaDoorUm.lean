/- The laws of uber: devices' texts are small; what came in. -/
import Derived.Test.YtcamcjcmhjldpaaDoorUl
import Derived.Test.YtcamcjcmhjldpaaDoorTy
namespace Go.Proofs.YtcamcjcmhjldpaaDoor
open Go Go.RowKit
set_option linter.unusedSimpArgs false
set_option linter.unnecessarySimpa false
set_option linter.unusedVariables false

def SmL (l : List (List UInt8)) : Prop := ∀ j, (l.getD j []).length ≤ 1024
theorem sm_blank : SmL blank9 := fun j => by rw [blank_get]; simp
theorem SmL.set {l : List (List UInt8)} (h : SmL l) {p : Nat} {s : List UInt8} (hp : p < l.length) (hs : s.length ≤ 1024) : SmL (l.set p s) := fun j => by
  rw [getD_set hp]
  split
  · exact hs
  · exact h j
theorem ring_small {a b : List (List UInt8)} (ha : 4 ≤ a.length) (hb : 4 ≤ b.length) (sa : SmL a) (sb : SmL b) : ∀ k, k < 8 → (ringD (clD a b) k).length ≤ 140737488351232 := by
  intro k hk
  by_cases h : k < 4
  · rw [ring_cl0 ha h]; have := sa k; omega
  · rw [ring_cl1 hb (by omega) hk]; have := sb (k - 4); omega
theorem ring_small_lost {a b : List (List UInt8)} (ha : 4 ≤ a.length) (hb : 4 ≤ b.length) (sa : SmL a) (sb : SmL b) {which : Nat} (hw : which < 2) : ∀ k, k < 8 → (ringD ((clD a b).lose which) k).length ≤ 140737488351232 := by
  intro k hk
  rcases (show which = 0 ∨ which = 1 by omega) with rfl | rfl
  · rw [show ((0 : Nat) : Int) = 0 from rfl, ring_lost0 hb hk]
    split
    · simp
    · have := sb (k - 4); omega
  · rw [show ((1 : Nat) : Int) = 1 from rfl, ring_lost1 ha hk]
    split
    · have := sa k; omega
    · simp
theorem secs_small {us : Nat → Ub} : ∀ i, (∀ j, j < i → ubE (us j) = 0) → SmL (secsN us i)
  | 0, _ => sm_blank
  | i + 1, h => (secs_small i (fun j hj => h j (by omega))).set (by rw [secs_len]; omega) (ubL_small (h i (by omega)))
theorem sp_small {us : Nat → Ub} {n : Nat} (h : ∀ j, j < n → ubE (us j) = 0) : ∀ s, SmL (spN us n s)
  | 0 => secs_small n h
  | s + 1 => (sp_small h s).set (by rw [sp_len]; omega) (by decide)
theorem lose_ws (a b : List (List UInt8)) (dev : Int) : ((clD a b).lose dev).ws = [] := by
  unfold Dv.lose
  split
  · rfl
  · split <;> rfl
theorem bools_at {w wr : World} {S : Nat → Prop} {B : Option Addr} {n c : Nat} {l : List Bool} (h : SlAt w.heap.size w IsBool 1 [.slice B n c] l) (hb : Below w.heap.size w wr) (hS : ∀ j, S j → w.heap.size ≤ j) : BoolsAt (fun j => ¬ S j) wr B l := by
  obtain ⟨A', n', c', e, rfl, hc, hm, hx⟩ := h
  simp at e
  obtain ⟨rfl, rfl, rfl⟩ := e
  refine fun i hi => ?_
  obtain ⟨ad, rfl, had, hcell⟩ := hx (by omega)
  obtain ⟨es, _, hes, hu⟩ := hcell i l[i] (List.getElem?_eq_getElem hi)
  simp only [IsBool] at hes
  subst hes
  have yw := hu 0 _ rfl
  simp only [Nat.mul_one, Nat.add_zero] at yw
  rw [← hb.cell (by unfold Addr.add; split <;> exact had)] at yw
  exact ⟨ad, rfl, Nat.lt_of_lt_of_le had hb.size, fun e => absurd (hS _ e) (by omega), yw⟩
theorem sl_form {T : Type} {w : World} {R : List Value → T → Prop} {v : Value} {l : List T} (h : SlAt w.heap.size w R 1 [v] l) : ∃ A c, v = .slice A l.length c ∧ l.length ≤ maxLen := by
  obtain ⟨A, n, c, e, rfl, hc, hm, hx⟩ := h
  simp only [List.cons.injEq, and_true] at e
  exact ⟨A, c, e, by unfold maxLen at *; omega⟩
theorem str_cell {w wr : World} {A : Option Addr} {c : Nat} {l : List (List UInt8)} (h : SlAt w.heap.size w IsStr 1 [.slice A l.length c] l) (hb : Below w.heap.size w wr) {j : Nat} (hj : j < l.length) : ∃ ad : Addr, A = some ad ∧ wr.cell? (ad.add j) = some (.string (bstr (l.getD j []))) := by
  obtain ⟨A', n', c', e, rfl, hc, hm, hx⟩ := h
  simp at e
  obtain ⟨rfl, rfl⟩ := e
  obtain ⟨ad, rfl, had, hcell⟩ := hx (by omega)
  obtain ⟨es, hl, ⟨rfl, k1⟩, hu⟩ := hcell j l[j] (List.getElem?_eq_getElem hj)
  have yw := hu 0 _ rfl
  simp only [Nat.mul_one, Nat.add_zero] at yw
  rw [← hb.cell (by unfold Addr.add; split <;> exact had)] at yw
  exact ⟨ad, rfl, by rw [yw]; simp [List.getD_eq_getElem?_getD, hj]⟩
end Go.Proofs.YtcamcjcmhjldpaaDoor
