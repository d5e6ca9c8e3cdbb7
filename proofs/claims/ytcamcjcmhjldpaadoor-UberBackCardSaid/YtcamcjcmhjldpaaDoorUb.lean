/- Roots of a ring, plain part: their texts, what is decoded, and the laws of both. -/
import Derived.Test.YtcamcjcmhjldpaaDoorTx
import Derived.Test.YtcamcjcmhjldpaaDoorSl
namespace Go.Proofs.YtcamcjcmhjldpaaDoor
open Go Go.RowKit
set_option linter.unusedSimpArgs false
set_option linter.unnecessarySimpa false
set_option linter.unusedVariables false

structure Ub where
  txg : Int
  load : List UInt8
deriving DecidableEq
def zUb : Ub := ⟨0, []⟩
def ubE (u : Ub) : Int := if u.txg < 0 ∨ 1099511627776 < u.txg ∨ 960 < u.load.length then 1 else 0
def ubB (u : Ub) : List UInt8 := [80, 70] ++ putL u.txg 6 ++ textL u.load 2
def ubL (u : Ub) : List UInt8 := if ubE u = 0 then ubB u ++ shaL (ubB u) else []
/-- what the reader tells of a text -/
structure UbR where
  kind : List UInt8
  u : Ub
  fin : Int
def ubR (s : List UInt8) : UbR :=
  ⟨(Rd.bytes ⟨s, 0⟩ 2).1, ⟨((Rd.bytes ⟨s, 0⟩ 2).2.number 6).1, (((Rd.bytes ⟨s, 0⟩ 2).2.number 6).2.text 2).1⟩, (((Rd.bytes ⟨s, 0⟩ 2).2.number 6).2.text 2).2.fin⟩
def ubD (s : List UInt8) : Ub × Int :=
  if s.length < 42 then (zUb, 2)
  else if shaL (s.take (s.length - 32)) ≠ s.drop (s.length - 32) then (zUb, 4)
  else if (ubR (s.take (s.length - 32))).kind ≠ [80, 70] ∨ (ubR (s.take (s.length - 32))).fin ≠ 0 ∨ 1099511627776 < (ubR (s.take (s.length - 32))).u.txg ∨ 960 < (ubR (s.take (s.length - 32))).u.load.length then (zUb, 3)
  else ((ubR (s.take (s.length - 32))).u, 0)

theorem ubE_ok {u : Ub} (h : ubE u = 0) : 0 ≤ u.txg ∧ u.txg ≤ 1099511627776 ∧ u.load.length ≤ 960 := by
  unfold ubE at h
  split at h
  · cases h
  · omega
theorem ubE_of {u : Ub} (h1 : 0 ≤ u.txg) (h2 : u.txg ≤ 1099511627776) (h3 : u.load.length ≤ 960) : ubE u = 0 := by
  unfold ubE
  rw [if_neg (by omega)]
theorem putL_six {n : Int} (h0 : 0 ≤ n) (h1 : n ≤ 1099511627776) : (putL n 6).length = 6 := by
  obtain ⟨m, rfl⟩ : ∃ m : Nat, n = m := ⟨n.toNat, by omega⟩
  have := putL_leB (n := m) (wd := 6) (by decide) (by decide) (by omega)
  rw [show ((6 : Nat) : Int) = 6 from rfl] at this
  rw [this, length_leB]
theorem textL_two {s : List UInt8} (h : s.length ≤ 960) : (textL s 2).length = 2 + s.length := by
  unfold textL
  have hm : mostI 2 = 65535 := by decide
  rw [hm, if_neg (by omega)]
  have := putL_leB (n := s.length) (wd := 2) (by decide) (by decide) (by omega)
  rw [show ((2 : Nat) : Int) = 2 from rfl] at this
  rw [this, List.length_append, length_leB]
theorem ubB_len {u : Ub} (h : ubE u = 0) : (ubB u).length = 10 + u.load.length := by
  obtain ⟨h1, h2, h3⟩ := ubE_ok h
  unfold ubB
  rw [List.length_append, List.length_append, putL_six h1 h2, textL_two h3]
  simp only [List.length_cons, List.length_nil]
  omega
theorem ubL_ok {u : Ub} (h : ubE u = 0) : ubL u = ubB u ++ shaL (ubB u) := by unfold ubL; rw [if_pos h]
theorem ubL_len {u : Ub} (h : ubE u = 0) : (ubL u).length = 42 + u.load.length := by
  rw [ubL_ok h, List.length_append, sha_len, ubB_len h]
  omega
theorem ubR_body {u : Ub} (h : ubE u = 0) : ubR (ubB u) = ⟨[80, 70], u, 0⟩ := by
  obtain ⟨h1, h2, h3⟩ := ubE_ok h
  have e1 : Rd.bytes ⟨ubB u, 0⟩ 2 = ([80, 70], ⟨putL u.txg 6 ++ textL u.load 2, 0⟩) := by
    have := bytes_cat [80, 70] (putL u.txg 6 ++ textL u.load 2)
    unfold ubB
    rw [List.append_assoc]
    exact this
  have e2 : Rd.number ⟨putL u.txg 6 ++ textL u.load 2, 0⟩ 6 = (u.txg, ⟨textL u.load 2, 0⟩) := number_cat (by decide) (by decide) h1 (by rw [show mostI 6 = 281474976710655 by decide]; omega) _
  have e3 : Rd.text ⟨textL u.load 2, 0⟩ 2 = (u.load, ⟨[], 0⟩) := by
    have := text_cat (s := u.load) (wd := 2) (by decide) (by decide) (by omega) []
    rw [List.append_nil] at this
    exact this
  unfold ubR
  rw [e1]
  simp only
  rw [e2]
  simp only
  rw [e3]
  rfl
/-- what is encoded is decoded as it was -/
theorem ub_dec_enc {u : Ub} (h : ubE u = 0) : ubD (ubL u) = (u, 0) := by
  obtain ⟨h1, h2, h3⟩ := ubE_ok h
  have hl := ubL_len h
  have hb := ubB_len h
  have et : (ubL u).take ((ubL u).length - 32) = ubB u := by
    rw [hl, ubL_ok h, List.take_append_of_le_length (by omega), List.take_of_length_le (by omega)]
  have ed : (ubL u).drop ((ubL u).length - 32) = shaL (ubB u) := by
    rw [hl, ubL_ok h, List.drop_append_of_le_length (by omega), List.drop_eq_nil_of_le (by omega), List.nil_append]
  unfold ubD
  rw [if_neg (by omega), et, ed, if_neg (by simp), ubR_body h]
  simp only
  rw [if_neg (by simp; omega)]
theorem fin_zero {r : Rd} (h : r.fin = 0) : r.e = 0 ∧ r.s = [] := by
  unfold Rd.fin at h
  by_cases h1 : r.e = 0 ∧ r.s ≠ []
  · rw [if_pos h1] at h; cases h
  · rw [if_neg h1] at h
    exact ⟨h, Decidable.byContradiction fun e => h1 ⟨h, e⟩⟩
theorem ubR_ok {s : List UInt8} {u : Ub} (h : ubR s = ⟨[80, 70], u, 0⟩) : s = [80, 70] ++ putL u.txg 6 ++ textL u.load 2 ∧ 0 ≤ u.txg := by
  unfold ubR at h
  obtain ⟨⟨k, r1⟩, h1⟩ : ∃ t, Rd.bytes ⟨s, 0⟩ 2 = t := ⟨_, rfl⟩
  rw [h1] at h
  simp only at h
  obtain ⟨⟨n, r2⟩, h2⟩ : ∃ t, r1.number 6 = t := ⟨_, rfl⟩
  rw [h2] at h
  simp only at h
  obtain ⟨⟨l, r3⟩, h3⟩ : ∃ t, r2.text 2 = t := ⟨_, rfl⟩
  rw [h3] at h
  simp only [UbR.mk.injEq] at h
  obtain ⟨rfl, rfl, hf⟩ := h
  obtain ⟨e0, es⟩ := fin_zero hf
  obtain ⟨a1, a2, _⟩ := text_ok (wd := 2) (by decide) (by decide) h3 e0
  obtain ⟨b1, b2, b3⟩ := num_ok (wd := 6) (by decide) (by decide) h2 a1
  obtain ⟨_, c2, _⟩ := byt_ok (n := 2) h1 b1
  simp only at c2 ⊢
  refine ⟨?_, b3⟩
  rw [c2, b2, a2, es, List.append_nil, List.append_assoc]
  rfl
/-- what is decoded is encoded as it was -/
theorem ub_enc_dec {s : List UInt8} {u : Ub} (h : ubD s = (u, 0)) : ubE u = 0 ∧ ubL u = s := by
  unfold ubD at h
  split at h
  · cases h
  split at h
  · cases h
  split at h
  · cases h
  rename_i h1 h2 h3
  simp only [Prod.mk.injEq, and_true] at h
  have h4 : shaL (s.take (s.length - 32)) = s.drop (s.length - 32) := Decidable.byContradiction h2
  obtain ⟨⟨k, u', f⟩, hR⟩ : ∃ R, ubR (s.take (s.length - 32)) = R := ⟨_, rfl⟩
  rw [hR] at h h3
  simp only at h h3
  subst h
  have hk : k = [80, 70] := Decidable.byContradiction fun e => h3 (.inl e)
  have hf : f = 0 := Decidable.byContradiction fun e => h3 (.inr (.inl e))
  subst hk hf
  obtain ⟨hb, h0⟩ := ubR_ok hR
  have he : ubE u' = 0 := ubE_of h0 (by omega) (by omega)
  refine ⟨he, ?_⟩
  rw [ubL_ok he]
  have : ubB u' = s.take (s.length - 32) := by rw [hb]; rfl
  rw [this, h4, List.take_append_drop]
theorem ub_err {s : List UInt8} {u : Ub} {e : Int} (h : ubD s = (u, e)) (he : e ≠ 0) : u = zUb ∧ (e = 2 ∨ e = 3 ∨ e = 4) := by
  unfold ubD at h
  split at h
  · cases h; exact ⟨rfl, .inl rfl⟩
  split at h
  · cases h; exact ⟨rfl, .inr (.inr rfl)⟩
  split at h
  · cases h; exact ⟨rfl, .inr (.inl rfl)⟩
  · simp only [Prod.mk.injEq] at h; exact absurd h.2.symm he

/-! the document's way: a text is a root's if it is what the root is encoded to -/
def rbR (s : List UInt8) : UbR := ⟨[], ⟨(Rd.number ⟨s, 0⟩ 6).1, ((Rd.number ⟨s, 0⟩ 6).2.text 2).1⟩, ((Rd.number ⟨s, 0⟩ 6).2.text 2).2.fin⟩
def rbD (s : List UInt8) : Ub × Int :=
  if s.length < 42 then (zUb, 2)
  else if shaL (s.take (s.length - 32)) ≠ s.drop (s.length - 32) then (zUb, 4)
  else if (rbR ((s.take (s.length - 32)).drop 2)).fin ≠ 0 ∨ ubE (rbR ((s.take (s.length - 32)).drop 2)).u ≠ 0 ∨ ubL (rbR ((s.take (s.length - 32)).drop 2)).u ≠ s then (zUb, 3)
  else ((rbR ((s.take (s.length - 32)).drop 2)).u, 0)
theorem rbD_eq (s : List UInt8) : rbD s = ubD s := by
  unfold rbD
  by_cases h1 : s.length < 42
  · rw [if_pos h1]; unfold ubD; rw [if_pos h1]
  rw [if_neg h1]
  by_cases h2 : shaL (s.take (s.length - 32)) ≠ s.drop (s.length - 32)
  · rw [if_pos h2]; unfold ubD; rw [if_neg h1, if_pos h2]
  rw [if_neg h2]
  by_cases h3 : (rbR ((s.take (s.length - 32)).drop 2)).fin ≠ 0 ∨ ubE (rbR ((s.take (s.length - 32)).drop 2)).u ≠ 0 ∨ ubL (rbR ((s.take (s.length - 32)).drop 2)).u ≠ s
  · rw [if_pos h3]
    by_cases h4 : (ubD s).2 = 0
    · exfalso
      obtain ⟨⟨u, e⟩, hd⟩ : ∃ x, ubD s = x := ⟨_, rfl⟩
      rw [hd] at h4
      simp only at h4
      subst h4
      obtain ⟨he, hl⟩ := ub_enc_dec hd
      have hb := ubB_len he
      have hlen := ubL_len he
      have et : (s.take (s.length - 32)).drop 2 = putL u.txg 6 ++ textL u.load 2 := by
        rw [← hl, hlen, ubL_ok he, List.take_append_of_le_length (by omega), List.take_of_length_le (by omega)]
        unfold ubB
        rw [List.append_assoc]
        rfl
      obtain ⟨k1, k2, k3⟩ := ubE_ok he
      have e2 : Rd.number ⟨putL u.txg 6 ++ textL u.load 2, 0⟩ 6 = (u.txg, ⟨textL u.load 2, 0⟩) := number_cat (by decide) (by decide) k1 (by rw [show mostI 6 = 281474976710655 by decide]; omega) _
      have e3 : Rd.text ⟨textL u.load 2, 0⟩ 2 = (u.load, ⟨[], 0⟩) := by
        have := text_cat (s := u.load) (wd := 2) (by decide) (by decide) (by omega) []
        rw [List.append_nil] at this
        exact this
      have eR : rbR ((s.take (s.length - 32)).drop 2) = ⟨[], u, 0⟩ := by
        unfold rbR
        rw [et, e2]
        simp only
        rw [e3]
        rfl
      rw [eR] at h3
      simp only at h3
      rcases h3 with h3 | h3 | h3
      · exact h3 rfl
      · exact h3 he
      · exact h3 hl
    · unfold ubD at h4 ⊢
      rw [if_neg h1, if_neg h2] at h4 ⊢
      split
      · rfl
      · rename_i h5
        rw [if_neg h5] at h4
        exact absurd rfl h4
  · rw [if_neg h3]
    have he : ubE (rbR ((s.take (s.length - 32)).drop 2)).u = 0 := Decidable.byContradiction fun e => h3 (.inr (.inl e))
    have hl : ubL (rbR ((s.take (s.length - 32)).drop 2)).u = s := Decidable.byContradiction fun e => h3 (.inr (.inr e))
    have := ub_dec_enc he
    rw [hl] at this
    exact this.symm
end Go.Proofs.YtcamcjcmhjldpaaDoor
