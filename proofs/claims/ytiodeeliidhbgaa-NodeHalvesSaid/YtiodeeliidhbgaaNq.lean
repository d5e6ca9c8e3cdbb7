/- Nodes' texts: plain laws: what is encoded is decoded as it was, and the other way round. -/
import Derived.Test.YtiodeeliidhbgaaNdH
import Derived.Test.YtiodeeliidhbgaaNp
namespace Go.Proofs.Ytiodeeliidhbgaa
open Go Go.RowKit
set_option linter.unusedSimpArgs false
set_option linter.unnecessarySimpa false
set_option linter.unusedVariables false

theorem number_cat {n wd : Int} (h1 : 1 ≤ wd) (h7 : wd ≤ 7) (h0 : 0 ≤ n) (hn : n ≤ mostI wd) (rest : List UInt8) : Rd.number ⟨putL n wd ++ rest, 0⟩ wd = (n, ⟨rest, 0⟩) := by
  obtain ⟨m, rfl⟩ : ∃ m : Nat, wd = m := ⟨wd.toNat, by omega⟩
  obtain ⟨q, rfl⟩ : ∃ q : Nat, n = q := ⟨n.toNat, by omega⟩
  rw [mostI_nat (by omega) (by omega)] at hn
  have hp : 0 < 256 ^ m := Nat.pow_pos (by decide)
  have hq : q < 256 ^ m := by omega
  have e : putL (q : Int) m = leB q m := by
    unfold putL
    rw [if_neg (by omega), mostI_nat (by omega) (by omega), if_neg (by omega)]
    simp
  have hm : ¬ mostI (m : Int) < 0 := by rw [mostI_nat (by omega) (by omega)]; omega
  unfold Rd.number Rd.take
  rw [if_neg hm, e]
  simp only [ne_eq, not_true_eq_false, if_false]
  rw [if_neg (by simp [length_leB]; omega)]
  have hl := length_leB q m
  have e1 : (leB q m ++ rest).take m = leB q m := by rw [List.take_append_of_le_length (by omega), List.take_of_length_le (by omega)]
  have e2 : (leB q m ++ rest).drop m = rest := by rw [List.drop_append_of_le_length (by omega), List.drop_of_length_le (by omega)]; rfl
  simp only [Int.toNat_natCast, e1, e2, leN_leB q m hq]
theorem bytes_cat (s rest : List UInt8) : Rd.bytes ⟨s ++ rest, 0⟩ s.length = (s, ⟨rest, 0⟩) := by
  unfold Rd.bytes Rd.take
  have h0 : ¬ ((s.length : Nat) : Int) < 0 := by omega
  rw [if_neg h0]
  simp only [ne_eq, not_true_eq_false, if_false]
  have hle : ¬ (((s ++ rest).length : Nat) : Int) < (s.length : Int) := by rw [List.length_append]; omega
  rw [if_neg hle]
  simp

theorem putL_leB {n wd : Nat} (h1 : 1 ≤ wd) (h7 : wd ≤ 7) (hn : n < 256 ^ wd) : putL n wd = leB n wd := by
  unfold putL
  rw [if_neg (by omega), mostI_nat h1 h7, if_neg (by omega)]
  simp
theorem leB_leN : ∀ (q : List UInt8), leB (leN q) q.length = q
  | [] => rfl
  | b :: q => by
    have hb := b.toNat_lt
    have e1 : (b.toNat + 256 * leN q) % 256 = b.toNat := by omega
    have e2 : (b.toNat + 256 * leN q) / 256 = leN q := by omega
    simp only [leN, List.length_cons, leB, e1, e2, leB_leN q]
    simp
/-- a number that is read without an error: its bytes stood there -/
theorem num_ok {r r' : Rd} {v : Int} {wd : Nat} (h1 : 1 ≤ wd) (h7 : wd ≤ 7) (h : r.number wd = (v, r')) (he : r'.e = 0) : r.e = 0 ∧ r.s = putL v wd ++ r'.s ∧ 0 ≤ v := by
  have hm : ¬ mostI (wd : Int) < 0 := by
    have : 0 < 256 ^ wd := Nat.pow_pos (by decide)
    rw [mostI_nat h1 h7]; omega
  unfold Rd.number Rd.take at h
  rw [if_neg hm] at h
  by_cases e0 : r.e = 0
  · simp only [e0, ne_eq, not_true_eq_false, if_false] at h
    by_cases hl : (r.s.length : Int) < wd
    · rw [if_pos hl] at h
      simp only [Prod.mk.injEq] at h
      rw [← h.2] at he
      exact absurd (show (2 : Int) = 0 from he) (by decide)
    · rw [if_neg hl] at h
      simp only [Prod.mk.injEq, Int.toNat_natCast] at h
      obtain ⟨rfl, rfl⟩ := h
      have hlen : (r.s.take wd).length = wd := by rw [List.length_take]; omega
      have hlt := leN_lt (r.s.take wd)
      rw [hlen] at hlt
      have e1 := leB_leN (r.s.take wd)
      rw [hlen] at e1
      refine ⟨e0, ?_, by omega⟩
      rw [putL_leB h1 h7 hlt, e1]
      simp
  · rw [if_pos e0] at h
    simp only [Prod.mk.injEq] at h
    rw [← h.2] at he
    exact absurd he e0
theorem byt_ok {r r' : Rd} {q : List UInt8} {n : Nat} (h : r.bytes n = (q, r')) (he : r'.e = 0) : r.e = 0 ∧ r.s = q ++ r'.s ∧ q.length = n := by
  unfold Rd.bytes Rd.take at h
  have h0 : ¬ (n : Int) < 0 := by omega
  rw [if_neg h0] at h
  by_cases e0 : r.e = 0
  · simp only [e0, ne_eq, not_true_eq_false, if_false] at h
    by_cases hl : (r.s.length : Int) < n
    · rw [if_pos hl] at h
      simp only [Prod.mk.injEq] at h
      rw [← h.2] at he
      exact absurd (show (2 : Int) = 0 from he) (by decide)
    · rw [if_neg hl] at h
      simp only [Prod.mk.injEq, Int.toNat_natCast] at h
      obtain ⟨rfl, rfl⟩ := h
      exact ⟨e0, by simp, by rw [List.length_take]; omega⟩
  · rw [if_pos e0] at h
    simp only [Prod.mk.injEq] at h
    rw [← h.2] at he
    exact absurd he e0
theorem fin_err {r : Rd} (h : r.e ≠ 0) : r.fin = r.e := by unfold Rd.fin; rw [if_neg (by simp [h])]
theorem number_keep {r : Rd} (h : r.e ≠ 0) (wd : Int) : r.number wd = (0, r) := by
  obtain ⟨q, e⟩ := r
  exact Rd.number_err q e wd h
theorem bytes_keep {r : Rd} (h : r.e ≠ 0) (n : Int) : r.bytes n = ([], r) := by
  unfold Rd.bytes Rd.take
  rw [if_pos h]

theorem text_cat {s : List UInt8} {wd : Nat} (h1 : 1 ≤ wd) (h7 : wd ≤ 7) (hs : s.length < 256 ^ wd) (rest : List UInt8) : Rd.text ⟨textL s wd ++ rest, 0⟩ wd = (s, ⟨rest, 0⟩) := by
  have hm : mostI (wd : Int) = (256 ^ wd - 1 : Nat) := mostI_nat h1 h7
  unfold Rd.text
  have e : textL s wd = putL s.length wd ++ s := by unfold textL; rw [if_neg (by rw [hm]; omega)]
  rw [e, List.append_assoc, number_cat (by omega) (by omega) (by omega) (by rw [hm]; omega)]
  exact bytes_cat s rest
theorem text_ok {r r' : Rd} {t : List UInt8} {wd : Nat} (h1 : 1 ≤ wd) (h7 : wd ≤ 7) (h : r.text wd = (t, r')) (he : r'.e = 0) : r.e = 0 ∧ r.s = textL t wd ++ r'.s ∧ t.length < 256 ^ wd := by
  unfold Rd.text at h
  obtain ⟨⟨n, ra⟩, hn⟩ : ∃ x, r.number wd = x := ⟨_, rfl⟩
  rw [hn] at h
  simp only at h
  have hn0 : 0 ≤ n := by
    have : (r.number wd).1 = n := by rw [hn]
    rw [← this]
    unfold Rd.number
    simp
  obtain ⟨m, rfl⟩ : ∃ m : Nat, n = m := ⟨n.toNat, by omega⟩
  obtain ⟨e1, e2, e3⟩ := byt_ok h he
  obtain ⟨f1, f2, _⟩ := num_ok h1 h7 hn e1
  have hlt : m < 256 ^ wd := by
    have h5 : (r.number wd).1 = (m : Int) := by rw [hn]
    unfold Rd.number at h5
    have h6 := leN_lt (r.take wd (if mostI wd < 0 then 1 else 0)).1
    have h7' := (Rd.take_len r wd (if mostI wd < 0 then 1 else 0)).1
    have h8 : 256 ^ (r.take wd (if mostI wd < 0 then 1 else 0)).1.length ≤ 256 ^ wd := Nat.pow_le_pow_right (by decide) (by simpa using h7')
    simp only at h5
    omega
  refine ⟨f1, ?_, by omega⟩
  rw [f2, e2, ← List.append_assoc]
  congr 1
  unfold textL
  rw [if_neg (by rw [mostI_nat h1 h7]; omega), e3]
theorem text_keep {r : Rd} (h : r.e ≠ 0) (wd : Int) : r.text wd = ([], r) := by
  unfold Rd.text
  rw [number_keep h]
  exact bytes_keep h 0

/-- behind k entries of a text that was encoded -/
theorem decS_ents {ks vs : List (List UInt8)} (hl : ks.length = vs.length) (hk : ∀ i, i < ks.length → (ks.getD i []).length ≤ 300 ∧ (vs.getD i []).length ≤ 120) (rest : List UInt8) : ∀ k, k ≤ ks.length → decS ⟨entsL ks vs ks.length ++ rest, 0⟩ k = ⟨ks.take k, vs.take k, ⟨(entsL ks vs ks.length ++ rest).drop (entsL ks vs k).length, 0⟩⟩ := by
  have hpre : ∀ k, k ≤ ks.length → ∃ t, entsL ks vs ks.length = entsL ks vs k ++ t := by
    intro k hk
    induction hd : ks.length - k generalizing k with
    | zero =>
      obtain rfl : k = ks.length := by omega
      exact ⟨[], by simp⟩
    | succ d ih =>
      obtain ⟨t, ht⟩ := ih (k + 1) (by omega) (by omega)
      refine ⟨(textL (ks.getD k []) 2 ++ textL (vs.getD k []) 1) ++ t, ?_⟩
      rw [ht, entsL]
      simp
  intro k hkn
  induction k with
  | zero => simp [decS, entsL]
  | succ k ih =>
    obtain ⟨t, ht⟩ := hpre (k + 1) hkn
    have ih := ih (by omega)
    have e1 : (entsL ks vs ks.length ++ rest).drop (entsL ks vs k).length = textL (ks.getD k []) (2 : Nat) ++ (textL (vs.getD k []) (1 : Nat) ++ (t ++ rest)) := by
      rw [ht, entsL]
      simp
    have e2 : (entsL ks vs ks.length ++ rest).drop (entsL ks vs (k + 1)).length = t ++ rest := by
      rw [ht]
      simp
    obtain ⟨b1, b2⟩ := hk k (by omega)
    have t1 : Rd.text ⟨textL (ks.getD k []) (2 : Nat) ++ (textL (vs.getD k []) (1 : Nat) ++ (t ++ rest)), 0⟩ 2 = _ := text_cat (wd := 2) (by decide) (by decide) (by omega) _
    have t2 : Rd.text ⟨textL (vs.getD k []) (1 : Nat) ++ (t ++ rest), 0⟩ 1 = _ := text_cat (wd := 1) (by decide) (by decide) (by omega) _
    rw [decS, ih]
    simp only [e1, t1, t2, e2]
    rw [List.take_succ_eq_append_getElem (show k < ks.length by omega), List.take_succ_eq_append_getElem (show k < vs.length by omega)]
    simp [List.getD_eq_getElem?_getD, show k < ks.length by omega, show k < vs.length by omega]
theorem fin_end : Rd.fin ⟨[], 0⟩ = 0 := rfl
theorem dec_enc {n : Nd} (h : checkN n = 0) : decD (nodeL n) = (n, 0) := by
  have hm := check_may h
  obtain ⟨hs1, hs2⟩ := may_small hm
  obtain ⟨leaf, ks, vs⟩ := n
  simp only at hs1 hs2
  have hb : Rd.bytes ⟨nodeL ⟨leaf, ks, vs⟩, 0⟩ 1 = ([if leaf then 76 else 73], ⟨putL ks.length 1 ++ entsL ks vs ks.length, 0⟩) := bytes_cat [if leaf then 76 else 73] _
  have hn : Rd.number ⟨putL ks.length 1 ++ entsL ks vs ks.length, 0⟩ 1 = ((ks.length : Int), ⟨entsL ks vs ks.length, 0⟩) := number_cat (by decide) (by decide) (by omega) (by rw [show mostI 1 = 255 from rfl]; omega) _
  have hd := decS_ents (ks := ks) (vs := vs) hs2.symm (fun i hi => by
    have := may_at hm hi
    exact ⟨this.1, this.2.1⟩) [] ks.length (Nat.le_refl _)
  rw [List.append_nil, List.drop_length, List.take_length, List.take_of_length_le (by omega)] at hd
  have e1 : kindD (nodeL ⟨leaf, ks, vs⟩) = [if leaf then 76 else 73] := by unfold kindD; rw [hb]
  have e2 : manyD (nodeL ⟨leaf, ks, vs⟩) = ks.length := by unfold manyD; rw [hb, hn]
  have e3 : bodyD (nodeL ⟨leaf, ks, vs⟩) = ⟨ks, vs, ⟨[], 0⟩⟩ := by unfold bodyD; rw [e2, hb, hn]; simpa using hd
  have e4 : nodeD (nodeL ⟨leaf, ks, vs⟩) = ⟨leaf, ks, vs⟩ := by
    unfold nodeD
    rw [e1, e3]
    cases leaf <;> rfl
  unfold decD
  rw [e1, e3, e4]
  rw [if_neg (by rw [fin_end]; decide), if_neg]
  rintro (h1 | h1 | h1)
  · exact h1 fin_end
  · cases leaf <;> simp at h1
  · exact h1 h
theorem nodeL_len {n : Nd} (h : mayB n = true) : (nodeL n).length = sizeN n := by
  obtain ⟨hs1, hs2⟩ := may_small h
  have e : ∀ k, k ≤ n.keys.length → (entsL n.keys n.vals k).length = sumN n.keys n.vals k := by
    intro k hk
    induction k with
    | zero => rfl
    | succ k ih =>
      obtain ⟨b1, b2, _⟩ := may_at h (i := k) (by omega)
      have t1 : (textL (n.keys.getD k []) 2).length = 2 + (n.keys.getD k []).length := by
        unfold textL
        rw [if_neg (by rw [show mostI 2 = 65535 from rfl]; omega), List.length_append]
        have := putL_leB (n := (n.keys.getD k []).length) (wd := 2) (by decide) (by decide) (by omega)
        rw [show ((2 : Nat) : Int) = 2 from rfl] at this
        rw [this, length_leB]
      have t2 : (textL (n.vals.getD k []) 1).length = 1 + (n.vals.getD k []).length := by
        unfold textL
        rw [if_neg (by rw [show mostI 1 = 255 from rfl]; omega), List.length_append]
        have := putL_leB (n := (n.vals.getD k []).length) (wd := 1) (by decide) (by decide) (by omega)
        rw [show ((1 : Nat) : Int) = 1 from rfl] at this
        rw [this, length_leB]
      rw [entsL, sumN, List.length_append, List.length_append, ih (by omega), t1, t2]
      unfold entN
      omega
  unfold sizeN nodeL
  rw [h, if_pos rfl, List.length_cons, List.length_append, e _ (Nat.le_refl _)]
  have := putL_leB (n := n.keys.length) (wd := 1) (by decide) (by decide) (by omega)
  rw [show ((1 : Nat) : Int) = 1 from rfl] at this
  rw [this, length_leB]
  omega
/-- what was read without an error stood there -/
theorem decS_ok (r : Rd) : ∀ k, (decS r k).r.e = 0 → r.e = 0 ∧ r.s = entsL (decS r k).ks (decS r k).vs k ++ (decS r k).r.s
  | 0, h => ⟨h, rfl⟩
  | k + 1, h => by
    obtain ⟨⟨X, ra⟩, hX⟩ : ∃ x, (decS r k).r.text 2 = x := ⟨_, rfl⟩
    obtain ⟨⟨Y, rb⟩, hY⟩ : ∃ x, ra.text 1 = x := ⟨_, rfl⟩
    have hd : decS r (k + 1) = ⟨(decS r k).ks ++ [X], (decS r k).vs ++ [Y], rb⟩ := by rw [decS, hX]; simp only [hY]
    rw [hd] at h ⊢
    obtain ⟨y1, y2, _⟩ := text_ok (wd := 1) (by decide) (by decide) hY h
    obtain ⟨x1, x2, _⟩ := text_ok (wd := 2) (by decide) (by decide) hX y1
    obtain ⟨i1, i2⟩ := decS_ok r k x1
    obtain ⟨l1, l2, _⟩ := decS_len r k
    refine ⟨i1, ?_⟩
    have hpre : ∀ j, j ≤ k → entsL ((decS r k).ks ++ [X]) ((decS r k).vs ++ [Y]) j = entsL (decS r k).ks (decS r k).vs j := by
      intro j hj
      induction j with
      | zero => rfl
      | succ j ih =>
        rw [entsL, entsL, ih (by omega)]
        simp [List.getD_eq_getElem?_getD, List.getElem?_append_left, show j < (decS r k).ks.length by omega, show j < (decS r k).vs.length by omega]
    rw [entsL, hpre k (Nat.le_refl _), i2, x2, y2]
    have gk : ((decS r k).ks ++ [X]).getD k [] = X := by simp [List.getD_eq_getElem?_getD, List.getElem?_append_right, l1]
    have gv : ((decS r k).vs ++ [Y]).getD k [] = Y := by simp [List.getD_eq_getElem?_getD, List.getElem?_append_right, l2]
    rw [gk, gv]
    simp
theorem enc_dec {s : List UInt8} {n : Nd} (h : decD s = (n, 0)) : checkN n = 0 ∧ nodeL n = s := by
  unfold decD at h
  split at h
  · simp at h
  · rename_i hf2
    split at h
    · simp at h
    · rename_i hb
      simp only [not_or, Prod.mk.injEq, and_true, ne_eq, Classical.not_not] at hb h
      obtain ⟨hf, hq, hc⟩ := hb
      subst h
      refine ⟨hc, ?_⟩
      have he : (bodyD s).r.e = 0 ∧ (bodyD s).r.s = [] := by
        unfold Rd.fin at hf
        split at hf
        · cases hf
        · rename_i h5
          exact ⟨hf, by
            by_cases h6 : (bodyD s).r.s = []
            · exact h6
            · exact absurd ⟨hf, h6⟩ h5⟩
      obtain ⟨⟨q, r1⟩, hb1⟩ : ∃ x, Rd.bytes ⟨s, 0⟩ 1 = x := ⟨_, rfl⟩
      obtain ⟨⟨m, r2⟩, hn1⟩ : ∃ x, r1.number 1 = x := ⟨_, rfl⟩
      have hk : kindD s = q := by unfold kindD; rw [hb1]
      have hmm : manyD s = m := by unfold manyD; rw [hb1]; simp only [hn1]
      have hbd : bodyD s = decS r2 m.toNat := by unfold bodyD; rw [hmm, hb1]; simp only [hn1]
      have hm0 := (many_le s).1
      rw [hmm] at hm0
      rw [hbd] at he
      obtain ⟨i1, i2⟩ := decS_ok r2 m.toNat he.1
      obtain ⟨l1, l2, _⟩ := decS_len r2 m.toNat
      obtain ⟨n1, n2, _⟩ := num_ok (wd := 1) (by decide) (by decide) hn1 i1
      obtain ⟨b1, b2, b3⟩ := byt_ok (n := 1) hb1 n1
      have hnd : nodeD s = ⟨q == [76], (decS r2 m.toNat).ks, (decS r2 m.toNat).vs⟩ := by unfold nodeD; rw [hk, hbd]
      rw [hk] at hq
      have hq2 : q = [76] ∨ q = [73] := by
        by_cases h7 : q = [76]
        · exact .inl h7
        · exact .inr (by
            by_cases h8 : q = [73]
            · exact h8
            · exact absurd ⟨h7, h8⟩ hq)
      rw [hnd]
      unfold nodeL
      simp only [l1]
      rw [show ((m.toNat : Nat) : Int) = m by omega]
      have hs : s = q ++ (putL m (1 : Nat) ++ (entsL (decS r2 m.toNat).ks (decS r2 m.toNat).vs m.toNat ++ [])) := by
        rw [← he.2, ← i2, ← n2, ← b2]
      rw [hs, List.append_nil]
      rcases hq2 with rfl | rfl <;> rfl
theorem dec_err {s : List UInt8} {n : Nd} {e : Int} (h : decD s = (n, e)) (he : e ≠ 0) : n = emptyN := by
  unfold decD at h
  split at h
  · simp only [Prod.mk.injEq] at h; exact h.1.symm
  · split at h
    · simp only [Prod.mk.injEq] at h; exact h.1.symm
    · simp only [Prod.mk.injEq] at h; exact absurd h.2.symm he
end Go.Proofs.Ytiodeeliidhbgaa
