/- The document's answers on nodes, plain part: they are the program's. -/
import Derived.Test.YtiodeeliidhbgaaNq
import Derived.Test.YtiodeeliidhbgaaNr
namespace Go.Proofs.Ytiodeeliidhbgaa
open Go Go.RowKit
set_option linter.unusedSimpArgs false
set_option linter.unnecessarySimpa false
set_option linter.unusedVariables false

/-! which keys lie above a key -/
theorem get_at {l : List (List UInt8)} {j : Nat} (h : j < l.length) : l.getD j [] = l[j] := by
  rw [List.getD_eq_getElem?_getD, List.getElem?_eq_getElem h]; rfl
theorem low_lt {n : Nd} (h : mayB n = true) (key : List UInt8) {j : Nat} (hj : j < placeN n key) : Lt (n.keys.getD j []) key := lb_lo key n.keys j hj
theorem high_gt {n : Nd} (h : mayB n = true) (key : List UInt8) {j : Nat} (hj : j < n.keys.length) (hp : placeN n key + stepN n key ≤ j) : Lt key (n.keys.getD j []) := by
  refine place_gt h key _ ?_
  rw [get_at hj, List.mem_iff_getElem]
  exact ⟨j - (placeN n key + stepN n key), by rw [List.length_drop]; omega, by rw [List.getElem_drop]; congr 1; omega⟩
theorem key_side {n : Nd} (h : mayB n = true) (key : List UInt8) {j : Nat} (hj : j < n.keys.length) : Op.bytesLess key (n.keys.getD j []) = decide (placeN n key + stepN n key ≤ j) := by
  by_cases h1 : j < placeN n key
  · rw [decide_eq_false (by omega)]
    exact bl_asym (low_lt h key h1)
  · by_cases h2 : placeN n key + stepN n key ≤ j
    · rw [decide_eq_true h2]
      exact high_gt h key hj h2
    · rw [decide_eq_false h2]
      have hs : thereN n key = true := by
        cases ht : thereN n key
        · have : stepN n key = 0 := by unfold stepN; rw [ht]; rfl
          omega
        · rfl
      have := step_le n key
      have e : j = placeN n key := by omega
      rw [e, (there_lt hs).2]
      exact bl_irr key
theorem key_same {n : Nd} (h : mayB n = true) (key : List UInt8) {j : Nat} (hj : j < n.keys.length) : n.keys.getD j [] = key ↔ placeN n key ≤ j ∧ j < placeN n key + stepN n key := by
  constructor
  · intro e
    refine ⟨Nat.le_of_not_lt fun h1 => bl_ne (low_lt h key h1) e, Nat.lt_of_not_le fun h1 => bl_ne (high_gt h key hj h1) e.symm⟩
  · rintro ⟨h1, h2⟩
    have := step_le n key
    have e : j = placeN n key := by omega
    have hs : thereN n key = true := by
      cases ht : thereN n key
      · have : stepN n key = 0 := by unfold stepN; rw [ht]; rfl
        omega
      · rfl
    rw [e]
    exact (there_lt hs).2

/-! where a key stands -/
/-- the last of the first k keys that is not above -/
def rAt (ks : List (List UInt8)) (key : List UInt8) : Nat → Nat
  | 0 => 0
  | k + 1 => if Op.bytesLess key (ks.getD k []) then rAt ks key k else k
def rfindN (n : Nd) (key : List UInt8) : Nat × Bool :=
  if mayB n then (rAt n.keys key n.keys.length, decide (rAt n.keys key n.keys.length < n.keys.length) && decide (n.keys.getD (rAt n.keys key n.keys.length) [] = key)) else (0, false)
theorem rAt_eq {n : Nd} (h : mayB n = true) (key : List UInt8) : ∀ k, k ≤ n.keys.length → rAt n.keys key k = min k (placeN n key + stepN n key) - 1
  | 0, _ => by simp [rAt]
  | k + 1, hk => by
    rw [rAt, key_side h key (by omega), rAt_eq h key k (by omega)]
    by_cases e : placeN n key + stepN n key ≤ k
    · rw [decide_eq_true e, if_pos rfl]; omega
    · rw [decide_eq_false e, if_neg (by decide)]; omega
theorem rfind_eq (n : Nd) (key : List UInt8) : rfindN n key = findN n key := by
  unfold rfindN findN
  cases hm : mayB n
  · rfl
  · have hp := place_le n key
    rw [if_pos rfl, if_pos rfl, rAt_eq hm key _ (Nat.le_refl _), Nat.min_eq_right hp]
    cases ht : thereN n key
    · have hs : stepN n key = 0 := by unfold stepN; rw [ht]; rfl
      rw [hs, if_neg (by decide), Nat.add_zero, Prod.mk.injEq]
      refine ⟨rfl, ?_⟩
      rw [Bool.and_eq_false_iff, decide_eq_false_iff_not, decide_eq_false_iff_not]
      by_cases hl : placeN n key - 1 < n.keys.length
      · refine .inr fun e => ?_
        have := (key_same hm key hl).1 e
        omega
      · exact .inl hl
    · have hs : stepN n key = 1 := by unfold stepN; rw [ht]; rfl
      obtain ⟨h1, h2⟩ := there_lt ht
      rw [hs, if_pos rfl, Nat.add_sub_cancel, h2, decide_eq_true h1, decide_eq_true rfl]
      rfl

/-! without an entry -/
def rwo (key : List UInt8) (ks xs : List (List UInt8)) : Nat → List (List UInt8)
  | 0 => []
  | k + 1 => if ks.getD k [] = key then rwo key ks xs k else rwo key ks xs k ++ [xs.getD k []]
def rwithoutN (n : Nd) (key : List UInt8) : Nd := if mayB n then ⟨n.leaf, rwo key n.keys n.keys n.keys.length, rwo key n.keys n.vals n.keys.length⟩ else n
theorem take_snoc {l : List (List UInt8)} {k : Nat} (h : k < l.length) : l.take (k + 1) = l.take k ++ [l.getD k []] := by
  rw [get_at h, List.take_add_one, List.getElem?_eq_getElem h]; rfl
theorem rwo_eq {n : Nd} (h : mayB n = true) (key : List UInt8) {xs : List (List UInt8)} (hx : xs.length = n.keys.length) : ∀ k, k ≤ n.keys.length → rwo key n.keys xs k = (xs.take (placeN n key)).take k ++ (xs.drop (placeN n key + stepN n key)).take (k - (placeN n key + stepN n key))
  | 0, _ => by simp [rwo]
  | k + 1, hk => by
    have hp := place_le n key
    have hst := step_le n key
    rw [rwo, rwo_eq h key hx k (by omega)]
    by_cases h1 : k < placeN n key
    · rw [if_neg (fun e => by have := (key_same h key (by omega)).1 e; omega)]
      rw [show k - (placeN n key + stepN n key) = 0 by omega, show k + 1 - (placeN n key + stepN n key) = 0 by omega, List.take_zero, List.append_nil, List.append_nil, List.take_take, List.take_take, Nat.min_eq_left (by omega), Nat.min_eq_left (by omega), take_snoc (by omega)]
    · have e1 : (xs.take (placeN n key)).take k = xs.take (placeN n key) := List.take_of_length_le (by rw [List.length_take]; omega)
      have e2 : (xs.take (placeN n key)).take (k + 1) = xs.take (placeN n key) := List.take_of_length_le (by rw [List.length_take]; omega)
      rw [e1, e2]
      by_cases h2 : k < placeN n key + stepN n key
      · rw [if_pos ((key_same h key (by omega)).2 ⟨by omega, h2⟩), show k - (placeN n key + stepN n key) = 0 by omega, show k + 1 - (placeN n key + stepN n key) = 0 by omega]
      · rw [if_neg (fun e => h2 ((key_same h key (by omega)).1 e).2), show k + 1 - (placeN n key + stepN n key) = k - (placeN n key + stepN n key) + 1 by omega, take_snoc (by rw [List.length_drop]; omega), List.append_assoc]
        congr 2
        simp only [List.getD_eq_getElem?_getD, List.getElem?_drop]
        rw [show placeN n key + stepN n key + (k - (placeN n key + stepN n key)) = k by omega]
theorem rwo_all {n : Nd} (h : mayB n = true) (key : List UInt8) {xs : List (List UInt8)} (hx : xs.length = n.keys.length) : rwo key n.keys xs n.keys.length = xs.take (placeN n key) ++ xs.drop (placeN n key + stepN n key) := by
  have hp := place_le n key
  rw [rwo_eq h key hx _ (Nat.le_refl _), List.take_of_length_le (l := xs.take _) (by rw [List.length_take]; omega), List.take_of_length_le (l := xs.drop _) (by rw [List.length_drop]; omega)]
theorem rwithout_eq (n : Nd) (key : List UInt8) : rwithoutN n key = withoutN n key := by
  unfold rwithoutN withoutN
  cases hm : mayB n
  · rfl
  · rw [if_pos rfl, if_pos rfl, rwo_all hm key rfl, rwo_all hm key ((may_iff n).1 hm).1.symm]

/-! with an entry more -/
structure Ins where
  laid : Bool
  l : List (List UInt8)
def rwi (key x : List UInt8) (ks xs : List (List UInt8)) : Nat → Ins
  | 0 => ⟨false, []⟩
  | k + 1 => if (!(rwi key x ks xs k).laid && Op.bytesLess key (ks.getD k [])) = true then ⟨true, (rwi key x ks xs k).l ++ [x] ++ [xs.getD k []]⟩ else ⟨(rwi key x ks xs k).laid, (rwi key x ks xs k).l ++ [xs.getD k []]⟩
def rwf (key x : List UInt8) (ks xs : List (List UInt8)) (k : Nat) : List (List UInt8) := if (rwi key x ks xs k).laid then (rwi key x ks xs k).l else (rwi key x ks xs k).l ++ [x]
theorem rwi_eq {m : Nd} (h : mayB m = true) {key : List UInt8} (hs : stepN m key = 0) (x : List UInt8) {xs : List (List UInt8)} (hx : xs.length = m.keys.length) : ∀ k, k ≤ m.keys.length → rwi key x m.keys xs k = ⟨decide (placeN m key < k), if placeN m key < k then xs.take (placeN m key) ++ x :: (xs.drop (placeN m key)).take (k - placeN m key) else xs.take k⟩
  | 0, _ => by simp [rwi]
  | k + 1, hk => by
    have hp := place_le m key
    have hk2 := key_side h key (j := k) (by omega)
    rw [hs, Nat.add_zero] at hk2
    rw [rwi, rwi_eq h hs x hx k (by omega), hk2]
    rcases Nat.lt_trichotomy k (placeN m key) with h1 | h1 | h1
    · rw [decide_eq_false (show ¬ placeN m key < k by omega), decide_eq_false (show ¬ placeN m key ≤ k by omega), if_neg (by simp), decide_eq_false (show ¬ placeN m key < k + 1 by omega)]
      simp only [if_neg (show ¬ placeN m key < k by omega), if_neg (show ¬ placeN m key < k + 1 by omega)]
      rw [take_snoc (by omega)]
    · rw [decide_eq_false (show ¬ placeN m key < k by omega), decide_eq_true (show placeN m key ≤ k by omega), if_pos (by simp), decide_eq_true (show placeN m key < k + 1 by omega)]
      simp only [if_neg (show ¬ placeN m key < k by omega), if_pos (show placeN m key < k + 1 by omega)]
      rw [show k + 1 - placeN m key = 0 + 1 by omega, take_snoc (by rw [List.length_drop]; omega), List.take_zero, List.nil_append, h1, List.append_assoc]
      simp only [List.getD_eq_getElem?_getD, List.getElem?_drop]
      rfl
    · rw [decide_eq_true (show placeN m key < k by omega), Bool.not_true, Bool.false_and, if_neg (by decide), decide_eq_true (show placeN m key < k + 1 by omega)]
      simp only [if_pos (show placeN m key < k by omega), if_pos (show placeN m key < k + 1 by omega)]
      rw [show k + 1 - placeN m key = k - placeN m key + 1 by omega, take_snoc (by rw [List.length_drop]; omega), List.append_assoc, List.cons_append]
      congr 4
      simp only [List.getD_eq_getElem?_getD, List.getElem?_drop]
      rw [show placeN m key + (k - placeN m key) = k by omega]
theorem rwf_eq {m : Nd} (h : mayB m = true) {key : List UInt8} (hs : stepN m key = 0) (x : List UInt8) {xs : List (List UInt8)} (hx : xs.length = m.keys.length) : rwf key x m.keys xs m.keys.length = xs.take (placeN m key) ++ x :: xs.drop (placeN m key) := by
  have hp := place_le m key
  unfold rwf
  rw [rwi_eq h hs x hx _ (Nat.le_refl _)]
  by_cases h1 : placeN m key < m.keys.length
  · rw [decide_eq_true h1, if_pos rfl]
    simp only [if_pos h1]
    rw [List.take_of_length_le (l := xs.drop _) (by rw [List.length_drop]; omega)]
  · rw [decide_eq_false h1, if_neg (by simp)]
    simp only [if_neg h1]
    rw [List.take_of_length_le (by omega), List.take_of_length_le (by omega), List.drop_eq_nil_of_le (by omega)]
def rwithN (n : Nd) (key val : List UInt8) : Nd :=
  if mayB n && plB key val then ⟨n.leaf, rwf key key (withoutN n key).keys (withoutN n key).keys (withoutN n key).keys.length, rwf key val (withoutN n key).keys (withoutN n key).vals (withoutN n key).keys.length⟩ else n
theorem without_vals {n : Nd} {key : List UInt8} (h : mayB n = true) : (withoutN n key).vals = n.vals.take (placeN n key) ++ n.vals.drop (placeN n key + stepN n key) := by
  unfold withoutN; rw [if_pos h]
theorem without_leaf (n : Nd) (key : List UInt8) : (withoutN n key).leaf = n.leaf := by
  unfold withoutN; split <;> rfl
theorem without_step {n : Nd} {key : List UInt8} (h : mayB n = true) : stepN (withoutN n key) key = 0 := by
  unfold stepN
  rw [if_neg]
  intro e
  have := (there_mem (without_may h) key).1 e
  rw [without_keys h, keysWithout_mem h] at this
  exact this.1 rfl
theorem without_place {n : Nd} {key : List UInt8} (h : mayB n = true) : placeN (withoutN n key) key = placeN n key := by
  refine parts_one (parts_lb (ord_of_may (without_may h)) key) ?_
  have hp := place_le n key
  rw [without_keys h]
  refine ⟨by rw [keysWithout_len]; omega, fun j hj => ?_, fun j hj hj2 => ?_⟩
  · have := low_lt h key hj
    unfold keysWithout
    rw [List.getD_eq_getElem?_getD, List.getElem?_append_left (by rw [List.length_take]; omega), List.getElem?_take_of_lt hj, ← List.getD_eq_getElem?_getD]
    exact this
  · rw [keysWithout_len] at hj2
    have := high_gt h key (j := j + stepN n key) (by omega) (by omega)
    unfold keysWithout
    rw [List.getD_eq_getElem?_getD, List.getElem?_append_right (by rw [List.length_take]; omega), List.length_take, Nat.min_eq_left (by omega), List.getElem?_drop, show placeN n key + stepN n key + (j - placeN n key) = j + stepN n key by omega, ← List.getD_eq_getElem?_getD]
    exact bl_asym this
theorem rwith_eq (n : Nd) (key val : List UInt8) : rwithN n key val = withN n key val := by
  unfold rwithN
  cases hm : mayB n
  · rw [Bool.false_and, if_neg (by decide)]; unfold withN; rw [hm]; rfl
  · cases hp : plB key val
    · rw [Bool.and_false, if_neg (by decide)]; unfold withN; rw [hm, hp]; rfl
    · have hw := without_may (key := key) hm
      have hl := ((may_iff _).1 hw).1
      have ple := place_le n key
      have hnl := ((may_iff _).1 hm).1
      rw [Bool.and_self, if_pos rfl, rwf_eq hw (without_step hm) key rfl, rwf_eq hw (without_step hm) val hl.symm, without_place hm, without_keys hm, without_vals hm]
      unfold withN keysWithout
      rw [hm, hp]
      simp only [Bool.and_self, if_true]
      have t1 : (n.keys.take (placeN n key)).length = placeN n key := by rw [List.length_take]; omega
      have t2 : (n.vals.take (placeN n key)).length = placeN n key := by rw [List.length_take]; omega
      rw [List.take_append_of_le_length (by omega), List.drop_append_of_le_length (by omega), List.take_append_of_le_length (by omega), List.drop_append_of_le_length (by omega)]
      have u1 : (n.keys.take (placeN n key)).take (placeN n key) = n.keys.take (placeN n key) := List.take_of_length_le (by omega)
      have u2 : (n.vals.take (placeN n key)).take (placeN n key) = n.vals.take (placeN n key) := List.take_of_length_le (by omega)
      have d1 : (n.keys.take (placeN n key)).drop (placeN n key) = [] := List.drop_eq_nil_of_le (by omega)
      have d2 : (n.vals.take (placeN n key)).drop (placeN n key) = [] := List.drop_eq_nil_of_le (by omega)
      rw [u1, u2, d1, d2, List.nil_append, List.nil_append]

/-! halves -/
theorem take_may {n : Nd} (hm : mayB n = true) {c : Nat} (hc : c ≤ n.keys.length) : mayB ⟨n.leaf, n.keys.take c, n.vals.take c⟩ = true := by
  obtain ⟨h1, h2, h3, h4⟩ := (may_iff n).1 hm
  rw [may_iff]
  refine ⟨by simp only [List.length_take]; omega, by simp only [List.length_take]; omega, ?_, h4.sublist (List.take_sublist _ _)⟩
  have := plain_cut (p := c) (q := n.keys.length) h1 h3 (by omega)
  rw [List.drop_length, show n.vals.drop n.keys.length = [] by rw [h1, List.drop_length], List.append_nil, List.append_nil] at this
  exact this
theorem drop_may {n : Nd} (hm : mayB n = true) {c : Nat} (hc : c ≤ n.keys.length) : mayB ⟨n.leaf, n.keys.drop c, n.vals.drop c⟩ = true := by
  obtain ⟨h1, h2, h3, h4⟩ := (may_iff n).1 hm
  rw [may_iff]
  refine ⟨by simp only [List.length_drop]; omega, by simp only [List.length_drop]; omega, ?_, h4.sublist (List.drop_sublist _ _)⟩
  have := plain_cut (p := 0) (q := c) h1 h3 (by omega)
  simpa using this
theorem take_size {n : Nd} (hm : mayB n = true) {c : Nat} (hc : c ≤ n.keys.length) : sizeN ⟨n.leaf, n.keys.take c, n.vals.take c⟩ = 2 + sumN n.keys n.vals c := by
  unfold sizeN
  rw [take_may hm hc, if_pos rfl]
  simp only
  rw [List.length_take, Nat.min_eq_left hc, sum_take _ _ _ _ (Nat.le_refl _)]
theorem drop_size {n : Nd} (hm : mayB n = true) {c : Nat} (hc : c ≤ n.keys.length) : sizeN ⟨n.leaf, n.keys.drop c, n.vals.drop c⟩ + sumN n.keys n.vals c = 2 + sumN n.keys n.vals n.keys.length := by
  unfold sizeN
  rw [drop_may hm hc, if_pos rfl]
  simp only
  have := sum_drop n.keys n.vals c (n.keys.length - c)
  rw [show c + (n.keys.length - c) = n.keys.length by omega] at this
  rw [List.length_drop]
  omega
/-- the greater half's size, with a cut -/
def cutMax (n : Nd) (c : Nat) : Nat := max (sizeN ⟨n.leaf, n.keys.take c, n.vals.take c⟩) (sizeN ⟨n.leaf, n.keys.drop c, n.vals.drop c⟩)
/-- the best of the first k cuts -/
def rBest (f : Nat → Nat) : Nat → Nat
  | 0 => 1
  | k + 1 => if (decide (k + 1 = 1) || decide (f (k + 1) < f (rBest f k))) = true then k + 1 else rBest f k
theorem cutMax_le {n : Nd} (hm : mayB n = true) {c : Nat} (hc : c ≤ n.keys.length) : ∃ S, S = sumN n.keys n.vals n.keys.length ∧ sumN n.keys n.vals c ≤ S ∧ cutMax n c = max (2 + sumN n.keys n.vals c) (2 + (S - sumN n.keys n.vals c)) := by
  refine ⟨_, rfl, sum_mono _ _ _ _ hc, ?_⟩
  unfold cutMax
  have h1 := take_size hm hc
  have h2 := drop_size hm hc
  have h3 := sum_mono n.keys n.vals _ _ hc
  rw [h1]
  congr 1
  omega
theorem rBest_eq {n : Nd} (hm : mayB n = true) (hl : 2 ≤ n.keys.length) : ∀ k, 1 ≤ k → k < n.keys.length → rBest (cutMax n) k = min k (cutN n)
  | 0, h, _ => by omega
  | k + 1, _, hk => by
    obtain ⟨c1, c2, c3, c4⟩ := cutN_spec hl
    by_cases h0 : k = 0
    · subst h0
      rw [rBest, decide_eq_true rfl, Bool.true_or, if_pos rfl]
      omega
    · rw [rBest, rBest_eq hm hl k (by omega) (by omega), decide_eq_false (by omega), Bool.false_or]
      simp only [decide_eq_true_eq]
      obtain ⟨S, hS, s1, e1⟩ := cutMax_le hm (c := k + 1) (by omega)
      obtain ⟨_, rfl, s2, e2⟩ := cutMax_le hm (c := min k (cutN n)) (by omega)
      rw [← hS] at e2 s2 c3 c4
      rw [e1, e2]
      have es : sumN n.keys n.vals (k + 1) = sumN n.keys n.vals k + entN n.keys n.vals k := rfl
      have be := (ent_le hm (i := k) (by omega)).2
      by_cases h1 : k < cutN n
      · rw [Nat.min_eq_left (by omega), Nat.min_eq_left (by omega)]
        have m1 := sum_mono n.keys n.vals (k + 1) (cutN n) (by omega)
        have m2 := sum_mono n.keys n.vals k (cutN n - 1) (by omega)
        rw [if_pos]
        omega
      · rw [Nat.min_eq_right (by omega), Nat.min_eq_right (by omega)]
        have m1 := sum_mono n.keys n.vals (cutN n + 1) (k + 1) (by omega)
        have m2 := sum_mono n.keys n.vals (cutN n) (k + 1) (by omega)
        rw [if_neg]
        omega
theorem rBest_all {n : Nd} (hm : mayB n = true) (hl : 2 ≤ n.keys.length) : rBest (cutMax n) (n.keys.length - 1) = cutN n := by
  obtain ⟨c1, c2, _⟩ := cutN_spec hl
  rw [rBest_eq hm hl _ (by omega) (by omega)]
  omega

/-! the node of a text -/
theorem take_e {r : Rd} (n : Int) (h : r.e = 0 ∨ r.e = 2) : (r.take n 0).2.e = 0 ∨ (r.take n 0).2.e = 2 := by
  unfold Rd.take
  split
  · exact h
  · split
    · rename_i h2; exact absurd rfl h2
    · split
      · exact .inr rfl
      · exact .inl rfl
theorem number_e {r : Rd} {wd : Int} (hw : ¬ mostI wd < 0) (h : r.e = 0 ∨ r.e = 2) : (r.number wd).2.e = 0 ∨ (r.number wd).2.e = 2 := by
  unfold Rd.number
  rw [if_neg hw]
  exact take_e _ h
theorem text_e {r : Rd} {wd : Int} (hw : ¬ mostI wd < 0) (h : r.e = 0 ∨ r.e = 2) : (r.text wd).2.e = 0 ∨ (r.text wd).2.e = 2 := by
  unfold Rd.text Rd.bytes
  rw [if_neg (by unfold Rd.number; exact Int.not_lt.2 (Int.natCast_nonneg _))]
  exact take_e _ (number_e hw h)
theorem decS_e (r : Rd) (h : r.e = 0 ∨ r.e = 2) : ∀ k, (decS r k).r.e = 0 ∨ (decS r k).r.e = 2
  | 0 => h
  | k + 1 => text_e (by decide) (text_e (by decide) (decS_e r h k))
theorem body_e (s : List UInt8) : (bodyD s).r.e = 0 ∨ (bodyD s).r.e = 2 := by
  unfold bodyD
  refine decS_e _ (number_e (by decide) ?_) _
  unfold Rd.bytes
  rw [if_neg (by decide)]
  exact take_e _ (.inl rfl)
def rdecD (s : List UInt8) : Nd × Int :=
  if (bodyD s).r.e ≠ 0 then (emptyN, 2) else if checkN (nodeD s) ≠ 0 ∨ nodeL (nodeD s) ≠ s then (emptyN, 3) else (nodeD s, 0)
theorem rdec_eq (s : List UInt8) : rdecD s = decD s := by
  have he := body_e s
  unfold rdecD
  by_cases h0 : (bodyD s).r.e ≠ 0
  · rw [if_pos h0]
    unfold decD
    rw [if_pos]
    rw [fin_err h0]
    exact he.resolve_left h0
  · rw [if_neg h0]
    have h1 : (bodyD s).r.e = 0 := by omega
    by_cases h2 : checkN (nodeD s) ≠ 0 ∨ nodeL (nodeD s) ≠ s
    · rw [if_pos h2]
      have hf : ¬ (bodyD s).r.fin = 2 := by
        unfold Rd.fin
        split
        · omega
        · omega
      unfold decD
      rw [if_neg hf]
      by_cases h3 : (bodyD s).r.fin ≠ 0 ∨ (kindD s ≠ [76] ∧ kindD s ≠ [73]) ∨ checkN (nodeD s) ≠ 0
      · rw [if_pos h3]
      · exfalso
        have hd : decD s = (nodeD s, 0) := by unfold decD; rw [if_neg hf, if_neg h3]
        have := enc_dec hd
        rcases h2 with h2 | h2
        · exact h2 this.1
        · exact h2 this.2
    · rw [if_neg h2]
      have h3 : checkN (nodeD s) = 0 := Decidable.byContradiction fun e => h2 (.inl e)
      have h4 : nodeL (nodeD s) = s := Decidable.byContradiction fun e => h2 (.inr e)
      have := dec_enc h3
      rw [h4] at this
      exact this.symm
end Go.Proofs.Ytiodeeliidhbgaa
