/- Nodes of a tree, plain laws: what may be, by the order of its keys; with an entry more, without one; halves. -/
import Derived.Test.YtiodeeliidhbgaaNp
import Derived.Test.YtiodeeliidhbgaaNdD
namespace Go.Proofs.Ytiodeeliidhbgaa
open Go Go.RowKit
set_option linter.unusedSimpArgs false
set_option linter.unnecessarySimpa false
set_option linter.unusedVariables false

def Lt (a b : List UInt8) : Prop := Op.bytesLess a b = true
theorem ord_iff (ks : List (List UInt8)) : Ord ks ↔ ks.Pairwise Lt := by
  rw [List.pairwise_iff_getElem]
  constructor
  · intro h i j hi hj hij
    have := h i j hij hj
    rw [List.getD_eq_getElem?_getD, List.getD_eq_getElem?_getD, List.getElem?_eq_getElem hi, List.getElem?_eq_getElem hj] at this
    exact this
  · intro h i j hij hj
    rw [List.getD_eq_getElem?_getD, List.getD_eq_getElem?_getD, List.getElem?_eq_getElem (show i < ks.length by omega), List.getElem?_eq_getElem hj]
    exact h i j (by omega) hj hij
/-- entries that may be, one by one -/
def Plain (ks vs : List (List UInt8)) : Prop := ∀ i, i < ks.length → plB (ks.getD i []) (vs.getD i []) = true
theorem may_iff (n : Nd) : mayB n = true ↔ n.keys.length = n.vals.length ∧ n.keys.length ≤ 255 ∧ Plain n.keys n.vals ∧ n.keys.Pairwise Lt := by
  constructor
  · intro h
    obtain ⟨h1, h2, h3⟩ := (mayB_iff n).1 h
    refine ⟨h1, h2, fun i hi => ?_, (ord_iff _).1 (ord_of_may h)⟩
    have := h3 i hi
    simp only [okB, Bool.and_eq_true] at this
    exact this.1
  · rintro ⟨h1, h2, h3, h4⟩
    rw [mayB_iff]
    refine ⟨h1, h2, fun i hi => ?_⟩
    simp only [okB, Bool.and_eq_true, Bool.or_eq_true, decide_eq_true_eq]
    refine ⟨h3 i hi, ?_⟩
    by_cases h0 : i = 0
    · exact .inl h0
    · exact .inr ((ord_iff _).2 h4 (i - 1) i (by omega) hi)
theorem at_mem {ks : List (List UInt8)} {key : List UInt8} (h : Ord ks) : isAt ks key (lbN key ks) = true ↔ key ∈ ks := by
  constructor
  · intro e
    have ⟨h1, h2⟩ := of_decide_eq_true (show decide (lbN key ks < ks.length ∧ ks.getD (lbN key ks) [] = key) = true from e)
    rw [List.getD_eq_getElem?_getD, List.getElem?_eq_getElem h1] at h2
    exact h2 ▸ List.getElem_mem h1
  · intro e
    obtain ⟨j, hj, rfl⟩ := List.getElem_of_mem e
    have hp : Parts ks ks[j] j := by
      refine ⟨by omega, fun i hi => ?_, fun i h1 h2 => ?_⟩
      · have := h i j hi hj
        rw [List.getD_eq_getElem?_getD (l := ks) (i := j), List.getElem?_eq_getElem hj] at this
        exact this
      · by_cases e : j = i
        · subst e
          rw [List.getD_eq_getElem?_getD, List.getElem?_eq_getElem hj]
          exact bl_irr _
        · have := h j i (by omega) h2
          rw [List.getD_eq_getElem?_getD (l := ks) (i := j), List.getElem?_eq_getElem hj] at this
          exact bl_asym this
    rw [parts_one (parts_lb h _) hp]
    unfold isAt
    exact decide_eq_true ⟨hj, by rw [List.getD_eq_getElem?_getD, List.getElem?_eq_getElem hj]; rfl⟩
theorem there_mem {n : Nd} (h : mayB n = true) (key : List UInt8) : thereN n key = true ↔ key ∈ n.keys := at_mem (ord_of_may h)
theorem step_le (n : Nd) (key : List UInt8) : stepN n key ≤ 1 := by unfold stepN; split <;> omega
/-- a key's place: what is ahead lies below it, what is behind lies above it -/
theorem place_lt {n : Nd} (h : mayB n = true) (key : List UInt8) : ∀ x ∈ n.keys.take (placeN n key), Lt x key := by
  intro x hx
  obtain ⟨j, hj, rfl⟩ := List.getElem_of_mem hx
  rw [List.length_take] at hj
  have := lb_lo key n.keys j (by unfold placeN at hj; omega)
  rw [List.getD_eq_getElem?_getD, List.getElem?_eq_getElem (by omega)] at this
  rw [List.getElem_take]
  exact this
theorem place_gt {n : Nd} (h : mayB n = true) (key : List UInt8) : ∀ x ∈ n.keys.drop (placeN n key + stepN n key), Lt key x := by
  intro x hx
  obtain ⟨j, hj, rfl⟩ := List.getElem_of_mem hx
  rw [List.length_drop] at hj
  rw [List.getElem_drop]
  have ho := ord_of_may h
  have hp := parts_lb ho key
  have hlt : placeN n key + stepN n key + j < n.keys.length := by omega
  have h1 := hp.hi (placeN n key + stepN n key + j) (by unfold placeN; omega) hlt
  rw [List.getD_eq_getElem?_getD, List.getElem?_eq_getElem hlt] at h1
  by_cases e : Op.bytesLess key n.keys[placeN n key + stepN n key + j] = true
  · exact e
  · exfalso
    have he := bl_tri _ _ h1 (by simpa using e)
    have hm : key ∈ n.keys := by
      rw [← he]
      exact List.getElem_mem hlt
    have ht := (there_mem h key).2 hm
    have h2 := of_decide_eq_true (show decide (placeN n key < n.keys.length ∧ n.keys.getD (placeN n key) [] = key) = true from ht)
    have hs : stepN n key = 1 := by unfold stepN; rw [if_pos ht]
    have h3 := ho (placeN n key) (placeN n key + stepN n key + j) (by omega) hlt
    rw [h2.2, List.getD_eq_getElem?_getD, List.getElem?_eq_getElem hlt] at h3
    exact e h3
theorem there_lt {n : Nd} {key : List UInt8} (h : thereN n key = true) : placeN n key < n.keys.length ∧ n.keys.getD (placeN n key) [] = key :=
  of_decide_eq_true (show decide (placeN n key < n.keys.length ∧ n.keys.getD (placeN n key) [] = key) = true from h)
theorem place_le (n : Nd) (key : List UInt8) : placeN n key + stepN n key ≤ n.keys.length := by
  unfold stepN
  split
  · rename_i h
    have := (there_lt h).1
    omega
  · have := lb_le key n.keys
    unfold placeN
    omega
/-- the keys of a node with, and without, an entry -/
def keysWith (n : Nd) (key : List UInt8) : List (List UInt8) := n.keys.take (placeN n key) ++ key :: n.keys.drop (placeN n key + stepN n key)
def keysWithout (n : Nd) (key : List UInt8) : List (List UInt8) := n.keys.take (placeN n key) ++ n.keys.drop (placeN n key + stepN n key)
theorem pw_lt_trans {a b c : List UInt8} (h : Lt a b) (k : Lt b c) : Lt a c := bl_trans a b c h k
theorem keysWith_ord {n : Nd} (h : mayB n = true) (key : List UInt8) : (keysWith n key).Pairwise Lt := by
  have hp := ((may_iff n).1 h).2.2.2
  unfold keysWith
  rw [List.pairwise_append]
  refine ⟨hp.sublist (List.take_sublist _ _), List.pairwise_cons.2 ⟨place_gt h key, hp.sublist (List.drop_sublist _ _)⟩, fun a ha b hb => ?_⟩
  rcases List.mem_cons.1 hb with rfl | hb
  · exact place_lt h _ a ha
  · exact pw_lt_trans (place_lt h key a ha) (place_gt h key b hb)
theorem keysWithout_ord {n : Nd} (h : mayB n = true) (key : List UInt8) : (keysWithout n key).Pairwise Lt := by
  have hp := ((may_iff n).1 h).2.2.2
  unfold keysWithout
  rw [List.pairwise_append]
  exact ⟨hp.sublist (List.take_sublist _ _), hp.sublist (List.drop_sublist _ _), fun a ha b hb => pw_lt_trans (place_lt h key a ha) (place_gt h key b hb)⟩
theorem keysWithout_len (n : Nd) (key : List UInt8) : (keysWithout n key).length = n.keys.length - stepN n key := by
  have := place_le n key
  unfold keysWithout
  rw [List.length_append, List.length_take, List.length_drop]
  omega
theorem keysWith_len (n : Nd) (key : List UInt8) : (keysWith n key).length = n.keys.length - stepN n key + 1 := by
  have := place_le n key
  unfold keysWith
  rw [List.length_append, List.length_cons, List.length_take, List.length_drop]
  omega
theorem keysWith_mem {n : Nd} (h : mayB n = true) (key x : List UInt8) : x ∈ keysWith n key ↔ x = key ∨ x ∈ n.keys := by
  unfold keysWith
  rw [List.mem_append, List.mem_cons]
  constructor
  · rintro (h1 | h1 | h1)
    · exact .inr (List.mem_of_mem_take h1)
    · exact .inl h1
    · exact .inr (List.mem_of_mem_drop h1)
  · rintro (h1 | h1)
    · exact .inr (.inl h1)
    · by_cases e : x = key
      · exact .inr (.inl e)
      · obtain ⟨j, hj, rfl⟩ := List.getElem_of_mem h1
        by_cases h2 : j < placeN n key
        · exact .inl (List.mem_take_iff_getElem.2 ⟨j, by omega, rfl⟩)
        · refine .inr (.inr ?_)
          have h3 : placeN n key + stepN n key ≤ j := by
            unfold stepN
            split
            · rename_i ht
              have ⟨h4, h5⟩ := there_lt ht
              rcases Nat.lt_or_ge (placeN n key) j with h6 | h6
              · omega
              · exfalso
                have h7 : placeN n key = j := by omega
                rw [h7, List.getD_eq_getElem?_getD, List.getElem?_eq_getElem hj] at h5
                exact e h5
            · omega
          rw [List.mem_iff_getElem]
          exact ⟨j - (placeN n key + stepN n key), by rw [List.length_drop]; omega, by rw [List.getElem_drop]; congr 1; omega⟩
theorem keysWithout_mem {n : Nd} (h : mayB n = true) (key x : List UInt8) : x ∈ keysWithout n key ↔ x ≠ key ∧ x ∈ n.keys := by
  have hw := keysWith_mem h key x
  unfold keysWith at hw
  unfold keysWithout
  rw [List.mem_append, List.mem_cons] at hw
  rw [List.mem_append]
  constructor
  · intro h1
    refine ⟨?_, ?_⟩
    · rintro rfl
      rcases h1 with h1 | h1
      · exact bl_ne (place_lt h _ _ h1) rfl
      · exact bl_ne (place_gt h _ _ h1) rfl
    · rcases h1 with h1 | h1
      · exact List.mem_of_mem_take h1
      · exact List.mem_of_mem_drop h1
  · rintro ⟨h1, h2⟩
    rcases hw.2 (.inr h2) with h3 | h3 | h3
    · exact .inl h3
    · exact absurd h3 h1
    · exact .inr h3
/-- a place of the new list, in the old one -/
theorem plain_parts {ks vs : List (List UInt8)} {p q : Nat} {key val : List UInt8} (hl : ks.length = vs.length) (h : Plain ks vs) (hp : p ≤ ks.length) (hk : plB key val = true) : Plain (ks.take p ++ key :: ks.drop q) (vs.take p ++ val :: vs.drop q) := by
  intro i hi
  rw [List.length_append, List.length_cons, List.length_take, List.length_drop] at hi
  have e1 : (ks.take p).length = p := by rw [List.length_take]; omega
  have e2 : (vs.take p).length = p := by rw [List.length_take]; omega
  rcases Nat.lt_trichotomy i p with h1 | h1 | h1
  · have := h i (by omega)
    simp only [List.getD_eq_getElem?_getD] at this ⊢
    rw [List.getElem?_append_left (by omega), List.getElem?_append_left (by omega), List.getElem?_take_of_lt h1, List.getElem?_take_of_lt h1]
    exact this
  · subst h1
    simp only [List.getD_eq_getElem?_getD]
    rw [List.getElem?_append_right (by omega), List.getElem?_append_right (by omega), e1, e2]
    simpa using hk
  · obtain ⟨d, rfl⟩ : ∃ d, i = p + 1 + d := ⟨i - (p + 1), by omega⟩
    have := h (q + d) (by omega)
    simp only [List.getD_eq_getElem?_getD] at this ⊢
    rw [List.getElem?_append_right (by omega), List.getElem?_append_right (by omega), e1, e2, show p + 1 + d - p = d + 1 by omega, List.getElem?_cons_succ, List.getElem?_cons_succ, List.getElem?_drop, List.getElem?_drop]
    exact this
theorem plain_cut {ks vs : List (List UInt8)} {p q : Nat} (hl : ks.length = vs.length) (h : Plain ks vs) (hp : p ≤ ks.length) : Plain (ks.take p ++ ks.drop q) (vs.take p ++ vs.drop q) := by
  intro i hi
  rw [List.length_append, List.length_take, List.length_drop] at hi
  have e1 : (ks.take p).length = p := by rw [List.length_take]; omega
  have e2 : (vs.take p).length = p := by rw [List.length_take]; omega
  by_cases h1 : i < p
  · have := h i (by omega)
    simp only [List.getD_eq_getElem?_getD] at this ⊢
    rw [List.getElem?_append_left (by omega), List.getElem?_append_left (by omega), List.getElem?_take_of_lt h1, List.getElem?_take_of_lt h1]
    exact this
  · obtain ⟨d, rfl⟩ : ∃ d, i = p + d := ⟨i - p, by omega⟩
    have := h (q + d) (by omega)
    simp only [List.getD_eq_getElem?_getD] at this ⊢
    rw [List.getElem?_append_right (by omega), List.getElem?_append_right (by omega), e1, e2, show p + d - p = d by omega, List.getElem?_drop, List.getElem?_drop]
    exact this
theorem with_may {n : Nd} {key val : List UInt8} (h : mayB n = true) (hk : plB key val = true) (hl : n.keys.length ≤ 254) : mayB (withN n key val) = true := by
  obtain ⟨h1, h2, h3, h4⟩ := (may_iff n).1 h
  have hp := place_le n key
  unfold withN
  rw [h, hk]
  simp only [Bool.and_self, if_true]
  rw [may_iff]
  refine ⟨?_, ?_, plain_parts h1 h3 (by omega) hk, keysWith_ord h key⟩
  · simp only [List.length_append, List.length_cons, List.length_take, List.length_drop]; omega
  · simp only [List.length_append, List.length_cons, List.length_take, List.length_drop]; omega
theorem without_may {n : Nd} {key : List UInt8} (h : mayB n = true) : mayB (withoutN n key) = true := by
  obtain ⟨h1, h2, h3, h4⟩ := (may_iff n).1 h
  have hp := place_le n key
  unfold withoutN
  rw [h, if_pos rfl, may_iff]
  refine ⟨?_, ?_, plain_cut h1 h3 (by omega), keysWithout_ord h key⟩
  · simp only [List.length_append, List.length_take, List.length_drop]; omega
  · simp only [List.length_append, List.length_take, List.length_drop]; omega
theorem with_keys {n : Nd} {key val : List UInt8} (h : mayB n = true) (hk : plB key val = true) : (withN n key val).keys = keysWith n key := by
  unfold withN keysWith
  rw [h, hk]
  rfl
theorem without_keys {n : Nd} {key : List UInt8} (h : mayB n = true) : (withoutN n key).keys = keysWithout n key := by
  unfold withoutN keysWithout
  rw [h]
  rfl
theorem find_snd (n : Nd) (key : List UInt8) : (findN n key).2 = (mayB n && thereN n key) := by
  unfold findN
  cases mayB n
  · rfl
  · cases thereN n key <;> rfl
theorem find_there {n : Nd} (h : mayB n = true) (key : List UInt8) : (findN n key).2 = decide (key ∈ n.keys) := by
  rw [find_snd, h, Bool.true_and]
  by_cases e : key ∈ n.keys
  · rw [(there_mem h key).2 e, decide_eq_true e]
  · rw [decide_eq_false e]
    cases ht : thereN n key
    · rfl
    · exact absurd ((there_mem h key).1 ht) e
/-- what was put is found, with what goes with it -/
theorem with_found {n : Nd} {key val : List UInt8} (h : mayB n = true) (hk : plB key val = true) (hl : n.keys.length ≤ 254) : findN (withN n key val) key = (placeN n key, true) ∧ placeN n key < (withN n key val).vals.length ∧ (withN n key val).vals.getD (placeN n key) [] = val := by
  have hm := with_may h hk hl
  have hks := with_keys h hk
  obtain ⟨h1, h2, h3, h4⟩ := (may_iff n).1 h
  have hp := place_le n key
  have e1 : (n.keys.take (placeN n key)).length = placeN n key := by rw [List.length_take]; omega
  have e2 : (n.vals.take (placeN n key)).length = placeN n key := by rw [List.length_take]; omega
  have hpar : Parts (withN n key val).keys key (placeN n key) := by
    rw [hks]
    refine ⟨by rw [keysWith_len]; omega, fun j hj => ?_, fun j hj hj2 => ?_⟩
    · have := lb_lo key n.keys j hj
      unfold keysWith
      rw [List.getD_eq_getElem?_getD, List.getElem?_append_left (by omega), List.getElem?_take_of_lt hj, ← List.getD_eq_getElem?_getD]
      exact this
    · unfold keysWith
      rw [List.getD_eq_getElem?_getD, List.getElem?_append_right (by omega), e1]
      rcases Nat.lt_or_ge (placeN n key) j with h5 | h5
      · obtain ⟨d, rfl⟩ : ∃ d, j = placeN n key + 1 + d := ⟨j - (placeN n key + 1), by omega⟩
        rw [show placeN n key + 1 + d - placeN n key = d + 1 by omega, List.getElem?_cons_succ]
        rw [keysWith_len] at hj2
        have hd : d < (n.keys.drop (placeN n key + stepN n key)).length := by rw [List.length_drop]; omega
        rw [List.getElem?_eq_getElem hd]
        exact bl_asym (place_gt h key _ (List.getElem_mem hd))
      · have : j = placeN n key := by omega
        subst this
        rw [Nat.sub_self]
        exact bl_irr key
  have hpl : placeN (withN n key val) key = placeN n key := parts_one (parts_lb (ord_of_may hm) key) hpar
  have hkat : (withN n key val).keys.getD (placeN n key) [] = key := by
    rw [hks]
    unfold keysWith
    rw [List.getD_eq_getElem?_getD, List.getElem?_append_right (by omega), e1, Nat.sub_self]
    rfl
  have ht : thereN (withN n key val) key = true := by
    unfold thereN isAt
    rw [hpl]
    exact decide_eq_true ⟨by rw [hks, keysWith_len]; omega, hkat⟩
  have hv : (withN n key val).vals = n.vals.take (placeN n key) ++ val :: n.vals.drop (placeN n key + stepN n key) := by
    unfold withN
    rw [h, hk]
    rfl
  refine ⟨?_, ?_, ?_⟩
  · unfold findN
    rw [hm, if_pos rfl, ht, if_pos rfl, hpl]
  · rw [hv, List.length_append, List.length_cons, e2]; omega
  · rw [hv, List.getD_eq_getElem?_getD, List.getElem?_append_right (by omega), e2, Nat.sub_self]
    rfl

/-! halves -/
theorem cut_spec (ks vs : List (List UInt8)) (S : Nat) : ∀ (f a : Nat), 1 ≤ a → a < ks.length → ks.length ≤ a + f → (a = 1 ∨ sumN ks vs a + sumN ks vs (a - 1) < S) →
    1 ≤ cutGo ks vs S f a ∧ cutGo ks vs S f a < ks.length ∧ (cutGo ks vs S f a = 1 ∨ sumN ks vs (cutGo ks vs S f a) + sumN ks vs (cutGo ks vs S f a - 1) < S) ∧ (cutGo ks vs S f a + 1 = ks.length ∨ S ≤ sumN ks vs (cutGo ks vs S f a + 1) + sumN ks vs (cutGo ks vs S f a))
  | 0, a, h1, h2, h3, h4 => by omega
  | f + 1, a, h1, h2, h3, h4 => by
    by_cases hc : a + 1 < ks.length ∧ sumN ks vs (a + 1) + sumN ks vs a < S
    · rw [cutGo, if_pos hc]
      exact cut_spec ks vs S f (a + 1) (by omega) hc.1 (by omega) (.inr (by simpa using hc.2))
    · rw [cutGo, if_neg hc]
      refine ⟨h1, h2, h4, ?_⟩
      by_cases h5 : a + 1 = ks.length
      · exact .inl h5
      · exact .inr (Nat.le_of_not_lt fun h6 => hc ⟨by omega, h6⟩)
theorem cutN_spec {n : Nd} (h : 2 ≤ n.keys.length) : 1 ≤ cutN n ∧ cutN n < n.keys.length ∧ (cutN n = 1 ∨ sumN n.keys n.vals (cutN n) + sumN n.keys n.vals (cutN n - 1) < sumN n.keys n.vals n.keys.length) ∧ (cutN n + 1 = n.keys.length ∨ sumN n.keys n.vals n.keys.length ≤ sumN n.keys n.vals (cutN n + 1) + sumN n.keys n.vals (cutN n)) :=
  cut_spec n.keys n.vals _ n.keys.length 1 (Nat.le_refl _) (by omega) (by omega) (.inl rfl)
theorem sum_take (ks vs : List (List UInt8)) (c : Nat) : ∀ k, k ≤ c → sumN (ks.take c) (vs.take c) k = sumN ks vs k
  | 0, _ => rfl
  | k + 1, h => by
    rw [sumN, sumN, sum_take ks vs c k (by omega)]
    unfold entN
    simp only [List.getD_eq_getElem?_getD]
    rw [List.getElem?_take_of_lt (by omega), List.getElem?_take_of_lt (by omega)]
theorem sum_drop (ks vs : List (List UInt8)) (c : Nat) : ∀ k, sumN (ks.drop c) (vs.drop c) k + sumN ks vs c = sumN ks vs (c + k)
  | 0 => by simp [sumN]
  | k + 1 => by
    have := sum_drop ks vs c k
    rw [sumN, show c + (k + 1) = c + k + 1 by omega, sumN, ← this]
    unfold entN
    simp only [List.getD_eq_getElem?_getD]
    rw [List.getElem?_drop, List.getElem?_drop]
    omega
theorem halves_may {n : Nd} (h : halvesN n = true) : mayB n = true ∧ 2 ≤ n.keys.length := by
  unfold halvesN at h
  simpa using h
theorem first_may {n : Nd} (h : halvesN n = true) : mayB (firstN n) = true := by
  obtain ⟨hm, hl⟩ := halves_may h
  obtain ⟨h1, h2, h3, h4⟩ := (may_iff n).1 hm
  obtain ⟨c1, c2, _⟩ := cutN_spec hl
  unfold firstN
  rw [if_pos h, may_iff]
  refine ⟨by simp only [List.length_take]; omega, by simp only [List.length_take]; omega, ?_, h4.sublist (List.take_sublist _ _)⟩
  have := plain_cut (p := cutN n) (q := n.keys.length) h1 h3 (by omega)
  rw [List.drop_length, show n.vals.drop n.keys.length = [] by rw [h1, List.drop_length], List.append_nil, List.append_nil] at this
  exact this
theorem second_may {n : Nd} (h : halvesN n = true) : mayB (secondN n) = true := by
  obtain ⟨hm, hl⟩ := halves_may h
  obtain ⟨h1, h2, h3, h4⟩ := (may_iff n).1 hm
  obtain ⟨c1, c2, _⟩ := cutN_spec hl
  unfold secondN
  rw [if_pos h, may_iff]
  refine ⟨by simp only [List.length_drop]; omega, by simp only [List.length_drop]; omega, ?_, h4.sublist (List.drop_sublist _ _)⟩
  have := plain_cut (p := 0) (q := cutN n) h1 h3 (by omega)
  simpa using this
theorem first_size {n : Nd} (h : halvesN n = true) : sizeN (firstN n) = 2 + sumN n.keys n.vals (cutN n) := by
  obtain ⟨hm, hl⟩ := halves_may h
  obtain ⟨c1, c2, _⟩ := cutN_spec hl
  unfold sizeN
  rw [first_may h, if_pos rfl]
  unfold firstN
  rw [if_pos h]
  simp only
  rw [List.length_take, show min (cutN n) n.keys.length = cutN n by omega, sum_take _ _ _ _ (Nat.le_refl _)]
theorem second_size {n : Nd} (h : halvesN n = true) : sizeN (secondN n) + sumN n.keys n.vals (cutN n) = 2 + sumN n.keys n.vals n.keys.length := by
  obtain ⟨hm, hl⟩ := halves_may h
  obtain ⟨c1, c2, _⟩ := cutN_spec hl
  unfold sizeN
  rw [second_may h, if_pos rfl]
  unfold secondN
  rw [if_pos h]
  simp only
  have := sum_drop n.keys n.vals (cutN n) (n.keys.length - cutN n)
  rw [show cutN n + (n.keys.length - cutN n) = n.keys.length by omega] at this
  rw [List.length_drop]
  omega
theorem halves_fit {n : Nd} (h : halvesN n = true) (hs : sizeN n ≤ 1383) : checkN (firstN n) = 0 ∧ checkN (secondN n) = 0 := by
  obtain ⟨hm, hl⟩ := halves_may h
  obtain ⟨c1, c2, c3, c4⟩ := cutN_spec hl
  have f1 := first_size h
  have f2 := second_size h
  have hT : sizeN n = 2 + sumN n.keys n.vals n.keys.length := by unfold sizeN; rw [hm, if_pos rfl]
  have e1 : sumN n.keys n.vals (cutN n) = sumN n.keys n.vals (cutN n - 1) + entN n.keys n.vals (cutN n - 1) := by
    obtain ⟨c, hc⟩ : ∃ c, cutN n = c + 1 := ⟨cutN n - 1, by omega⟩
    rw [hc, sumN]
    rfl
  have e2 : sumN n.keys n.vals (cutN n + 1) = sumN n.keys n.vals (cutN n) + entN n.keys n.vals (cutN n) := rfl
  have b1 := (ent_le hm (i := cutN n - 1) (by omega)).1
  have b2 := (ent_le hm (i := cutN n) c2).1
  have z1 : ¬ 960 < sizeN (firstN n) := by
    rw [f1]
    rcases c3 with h3 | h3
    · rw [h3, sumN, sumN]
      rw [h3] at b1
      simp at b1
      omega
    · omega
  have z2 : ¬ 960 < sizeN (secondN n) := by
    rcases c4 with h4 | h4
    · rw [h4] at e2
      omega
    · omega
  exact ⟨check_ok (first_may h) z1, check_ok (second_may h) z2⟩
end Go.Proofs.Ytiodeeliidhbgaa
