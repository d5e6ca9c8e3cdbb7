/- Pointers' texts: pure facts: what is encoded is decoded as it was, and the other way round; what is cut off is none. -/
import Derived.Test.YtnjbhooogfonbaaPt8
namespace Go.Proofs.Ytnjbhooogfonbaa
open Go.RowKit
set_option linter.unusedSimpArgs false
set_option linter.unnecessarySimpa false
set_option linter.unusedVariables false

theorem number_cat {n wd : Int} (h1 : 1 ≤ wd) (h7 : wd ≤ 7) (h0 : 0 ≤ n) (hn : n ≤ mostI wd) (rest : List UInt8) : Rd.number ⟨putL n wd ++ rest, 0⟩ wd = (n, ⟨rest, 0⟩) := by
  obtain ⟨m, rfl⟩ : ∃ m : Nat, wd = m := ⟨wd.toNat, by omega⟩
  obtain ⟨q, rfl⟩ : ∃ q : Nat, n = q := ⟨n.toNat, by omega⟩
  rw [mostI_nat (by omega) (by omega)] at hn
  have hp : 0 < 256 ^ m := Nat.pow_pos (by decide)
  have hq : q < 256 ^ m := by omega
  have e : putL (q : Int) m = leB q m := by
    unfold putL
    rw [if_neg (by omega), mostI_nat (by omega) (by omega), if_neg (by omega)]
    simp
  have hm : ¬ mostI (m : Int) < 0 := by rw [mostI_nat (by omega) (by omega)]; omega
  unfold Rd.number Rd.take
  rw [if_neg hm, e]
  simp only [ne_eq, not_true_eq_false, if_false]
  rw [if_neg (by simp [length_leB]; omega)]
  have hl := length_leB q m
  have e1 : (leB q m ++ rest).take m = leB q m := by rw [List.take_append_of_le_length (by omega), List.take_of_length_le (by omega)]
  have e2 : (leB q m ++ rest).drop m = rest := by rw [List.drop_append_of_le_length (by omega), List.drop_of_length_le (by omega)]; rfl
  simp only [Int.toNat_natCast, e1, e2, leN_leB q m hq]
theorem bytes_cat (s rest : List UInt8) : Rd.bytes ⟨s ++ rest, 0⟩ s.length = (s, ⟨rest, 0⟩) := by
  unfold Rd.bytes Rd.take
  have h0 : ¬ ((s.length : Nat) : Int) < 0 := by omega
  rw [if_neg h0]
  simp only [ne_eq, not_true_eq_false, if_false]
  have hle : ¬ (((s ++ rest).length : Nat) : Int) < (s.length : Int) := by rw [List.length_append]; omega
  rw [if_neg hle]
  simp

theorem putL_leB {n wd : Nat} (h1 : 1 ≤ wd) (h7 : wd ≤ 7) (hn : n < 256 ^ wd) : putL n wd = leB n wd := by
  unfold putL
  rw [if_neg (by omega), mostI_nat h1 h7, if_neg (by omega)]
  simp
theorem leB_leN : ∀ (q : List UInt8), leB (leN q) q.length = q
  | [] => rfl
  | b :: q => by
    have hb := b.toNat_lt
    have e1 : (b.toNat + 256 * leN q) % 256 = b.toNat := by omega
    have e2 : (b.toNat + 256 * leN q) / 256 = leN q := by omega
    simp only [leN, List.length_cons, leB, e1, e2, leB_leN q]
    simp
/-- a number that is read without an error: its bytes stood there -/
theorem num_ok {r r' : Rd} {v : Int} {wd : Nat} (h1 : 1 ≤ wd) (h7 : wd ≤ 7) (h : r.number wd = (v, r')) (he : r'.e = 0) : r.e = 0 ∧ r.s = putL v wd ++ r'.s ∧ 0 ≤ v := by
  have hm : ¬ mostI (wd : Int) < 0 := by
    have : 0 < 256 ^ wd := Nat.pow_pos (by decide)
    rw [mostI_nat h1 h7]; omega
  unfold Rd.number Rd.take at h
  rw [if_neg hm] at h
  by_cases e0 : r.e = 0
  · simp only [e0, ne_eq, not_true_eq_false, if_false] at h
    by_cases hl : (r.s.length : Int) < wd
    · rw [if_pos hl] at h
      simp only [Prod.mk.injEq] at h
      rw [← h.2] at he
      exact absurd (show (2 : Int) = 0 from he) (by decide)
    · rw [if_neg hl] at h
      simp only [Prod.mk.injEq, Int.toNat_natCast] at h
      obtain ⟨rfl, rfl⟩ := h
      have hlen : (r.s.take wd).length = wd := by rw [List.length_take]; omega
      have hlt := leN_lt (r.s.take wd)
      rw [hlen] at hlt
      have e1 := leB_leN (r.s.take wd)
      rw [hlen] at e1
      refine ⟨e0, ?_, by omega⟩
      rw [putL_leB h1 h7 hlt, e1]
      simp
  · rw [if_pos e0] at h
    simp only [Prod.mk.injEq] at h
    rw [← h.2] at he
    exact absurd he e0
theorem byt_ok {r r' : Rd} {q : List UInt8} {n : Nat} (h : r.bytes n = (q, r')) (he : r'.e = 0) : r.e = 0 ∧ r.s = q ++ r'.s ∧ q.length = n := by
  unfold Rd.bytes Rd.take at h
  have h0 : ¬ (n : Int) < 0 := by omega
  rw [if_neg h0] at h
  by_cases e0 : r.e = 0
  · simp only [e0, ne_eq, not_true_eq_false, if_false] at h
    by_cases hl : (r.s.length : Int) < n
    · rw [if_pos hl] at h
      simp only [Prod.mk.injEq] at h
      rw [← h.2] at he
      exact absurd (show (2 : Int) = 0 from he) (by decide)
    · rw [if_neg hl] at h
      simp only [Prod.mk.injEq, Int.toNat_natCast] at h
      obtain ⟨rfl, rfl⟩ := h
      exact ⟨e0, by simp, by rw [List.length_take]; omega⟩
  · rw [if_pos e0] at h
    simp only [Prod.mk.injEq] at h
    rw [← h.2] at he
    exact absurd he e0
theorem locs_ok : ∀ (k : Nat) {r r' : Rd} {l : List Lc}, readLocs k r = (l, r') → r'.e = 0 → r.e = 0 ∧ r.s = locsL l ++ r'.s ∧ l.length = k
  | 0, r, r', l, h, he => by
    simp only [readLocs, Prod.mk.injEq] at h
    obtain ⟨rfl, rfl⟩ := h
    exact ⟨he, rfl, rfl⟩
  | k + 1, r, r', l, h, he => by
    rw [readLocs] at h
    obtain ⟨⟨d, ra⟩, hD⟩ : ∃ x, r.number 1 = x := ⟨_, rfl⟩
    rw [hD] at h
    obtain ⟨⟨a, rb⟩, hA⟩ : ∃ x, ra.number 2 = x := ⟨_, rfl⟩
    simp only at h
    rw [hA] at h
    simp only [Prod.mk.injEq] at h
    obtain ⟨rfl, hr⟩ := h
    obtain ⟨⟨l', rc⟩, hL⟩ : ∃ x, readLocs k rb = x := ⟨_, rfl⟩
    rw [hL] at hr ⊢
    simp only at hr
    subst hr
    obtain ⟨f1, f2, f3⟩ := locs_ok k hL he
    obtain ⟨g1, g2, -⟩ := num_ok (wd := 2) (by decide) (by decide) hA f1
    obtain ⟨k1, k2, -⟩ := num_ok (wd := 1) (by decide) (by decide) hD g1
    refine ⟨k1, ?_, by simp [f3]⟩
    rw [k2, g2, f2]
    simp [locsL, locL]
theorem fin_ok {r : Rd} (h : r.fin = 0) : r.e = 0 ∧ r.s = [] := by
  unfold Rd.fin at h
  by_cases e : r.e = 0
  · by_cases q : r.s = []
    · exact ⟨e, q⟩
    · rw [if_pos ⟨e, q⟩] at h; exact absurd h (by decide)
  · rw [if_neg (by simp [e])] at h; exact absurd h e

/-- what is decoded is encoded as it was -/
theorem enc_dec {s : List UInt8} {q : Pt} (h : decP s = (q, 0)) : ckE q = 0 ∧ encP q = s := by
  unfold decP at h
  split at h
  · simp at h
  · rename_i hg
    obtain ⟨⟨n, r1⟩, h1⟩ : ∃ x, Rd.number ⟨s, 0⟩ 1 = x := ⟨_, rfl⟩
    rw [h1] at h hg
    simp only at h hg
    obtain ⟨⟨locs, r2⟩, h2⟩ : ∃ x, readLocs n.toNat r1 = x := ⟨_, rfl⟩
    rw [h2] at h; simp only at h
    obtain ⟨⟨len, r3⟩, h3⟩ : ∃ x, r2.number 2 = x := ⟨_, rfl⟩
    rw [h3] at h; simp only at h
    obtain ⟨⟨birth, r4⟩, h4⟩ : ∃ x, r3.number 6 = x := ⟨_, rfl⟩
    rw [h4] at h; simp only at h
    obtain ⟨⟨sum, r5⟩, h5⟩ : ∃ x, r4.bytes 32 = x := ⟨_, rfl⟩
    rw [h5] at h; simp only at h
    split at h
    · rename_i hf
      simp only [Prod.mk.injEq] at h
      exact absurd h.2 hf
    · rename_i hf
      have hf : r5.fin = 0 := by simpa using hf
      split at h
      · rename_i hc
        simp only [Prod.mk.injEq, and_true] at h
        subst h
        refine ⟨hc, ?_⟩
        obtain ⟨a1, a2⟩ := fin_ok hf
        obtain ⟨b1, b2, -⟩ := byt_ok (n := 32) h5 a1
        obtain ⟨c1, c2, -⟩ := num_ok (wd := 6) (by decide) (by decide) h4 b1
        obtain ⟨d1, d2, -⟩ := num_ok (wd := 2) (by decide) (by decide) h3 c1
        obtain ⟨e1, e2, e3⟩ := locs_ok _ h2 d1
        obtain ⟨f1, f2, f3⟩ := num_ok (wd := 1) (by decide) (by decide) h1 e1
        have hn : (n.toNat : Int) = n := by omega
        simp only at f2
        rw [f2, e2, d2, c2, b2, a2]
        unfold encP
        simp only [e3, hn]
        simp
      · simp at h

theorem readLocs_cat : ∀ (l : List Lc) (rest : List UInt8), l.any badLoc = false → readLocs l.length ⟨locsL l ++ rest, 0⟩ = (l, ⟨rest, 0⟩)
  | [], rest, _ => rfl
  | a :: l, rest, h => by
    simp only [List.any_cons, Bool.or_eq_false_iff] at h
    obtain ⟨g1, g2, g3, g4⟩ := good_loc h.1
    have e : locsL (a :: l) ++ rest = putL a.dev 1 ++ (putL a.pos 2 ++ (locsL l ++ rest)) := by simp [locsL, locL]
    rw [e, List.length_cons, readLocs]
    have e1 := number_cat (n := a.dev) (wd := 1) (by decide) (by decide) g1 (by show a.dev ≤ 255; omega) (putL a.pos 2 ++ (locsL l ++ rest))
    have e2 := number_cat (n := a.pos) (wd := 2) (by decide) (by decide) g3 (by show a.pos ≤ 65535; omega) (locsL l ++ rest)
    have e3 := readLocs_cat l rest h.2
    rw [e1]; simp only
    rw [e2]; simp only
    rw [e3]
/-- what is encoded is decoded as it was -/
theorem dec_enc {p : Pt} (h : ckE p = 0) : decP (encP p) = (p, 0) := by
  obtain ⟨hl2, hl1, hs32, hbad, -, hin1, hin2⟩ := ok_facts h
  simp only [inI, Bool.and_eq_true, decide_eq_true_eq] at hin1 hin2
  have e : encP p = putL p.locs.length 1 ++ (locsL p.locs ++ (putL p.len 2 ++ (putL p.birth 6 ++ (p.sum ++ [])))) := by simp [encP]
  have e1 := number_cat (n := (p.locs.length : Int)) (wd := 1) (by decide) (by decide) (by omega) (by show (p.locs.length : Int) ≤ 255; omega) (locsL p.locs ++ (putL p.len 2 ++ (putL p.birth 6 ++ (p.sum ++ []))))
  have e2 := readLocs_cat p.locs (putL p.len 2 ++ (putL p.birth 6 ++ (p.sum ++ []))) hbad
  have e3 := number_cat (n := p.len) (wd := 2) (by decide) (by decide) hin1.1 (by show p.len ≤ 65535; omega) (putL p.birth 6 ++ (p.sum ++ []))
  have e4 := number_cat (n := p.birth) (wd := 6) (by decide) (by decide) hin2.1 (by show p.birth ≤ 281474976710655; omega) (p.sum ++ [])
  have e5 := bytes_cat p.sum []
  rw [hs32, show ((32 : Nat) : Int) = 32 from rfl] at e5
  unfold decP
  rw [e, e1]
  simp only
  rw [if_neg (by omega), Int.toNat_natCast, e2]
  simp only
  rw [e3]; simp only
  rw [e4]; simp only
  rw [e5]; simp only
  rw [if_neg (by decide), if_pos h]
theorem encP_inj {p q : Pt} (hp : ckE p = 0) (hq : ckE q = 0) : encP p = encP q ↔ p = q := by
  constructor
  · intro e
    have h1 := dec_enc hp
    rw [e, dec_enc hq] at h1
    simp only [Prod.mk.injEq, and_true] at h1
    exact h1.symm
  · rintro rfl; rfl
theorem encP_len {p : Pt} (h : ckE p = 0) : (encP p).length = 41 + 3 * p.locs.length := by
  obtain ⟨hl2, hl1, hs32, hbad, -, hin1, hin2⟩ := ok_facts h
  simp only [inI, Bool.and_eq_true, decide_eq_true_eq] at hin1 hin2
  obtain ⟨x, e1⟩ := put1 (n := (p.locs.length : Int)) (by omega) (by omega)
  obtain ⟨y0, y1, e2⟩ := put2 hin1.1 (by omega)
  obtain ⟨z0, z1, z2, z3, z4, z5, e3⟩ := put6 hin2.1 hin2.2
  unfold encP
  rw [e1, e2, e3]
  simp only [List.length_append, locsL_len3 hbad, hs32, List.length_cons, List.length_nil]
  omega

/-- fewer bytes are left than are asked for -/
def Short (r : Rd) (W : Nat) : Prop := r.e = 2 ∨ (r.e = 0 ∧ r.s.length < W)
theorem num_cut {r : Rd} {wd W : Nat} (h1 : 1 ≤ wd) (h7 : wd ≤ 7) (h : Short r (wd + W)) : Short (r.number wd).2 W := by
  have hm : ¬ mostI (wd : Int) < 0 := by
    have : 0 < 256 ^ wd := Nat.pow_pos (by decide)
    rw [mostI_nat h1 h7]; omega
  rcases h with h | ⟨h, hl⟩
  · rw [number_keep (by rw [h]; decide)]; exact .inl h
  · unfold Rd.number Rd.take
    rw [if_neg hm]
    simp only [h, ne_eq, not_true_eq_false, if_false]
    by_cases hq : (r.s.length : Int) < wd
    · rw [if_pos hq]; exact .inl rfl
    · rw [if_neg hq]; exact .inr ⟨rfl, by simp; omega⟩
theorem byt_cut {r : Rd} {n W : Nat} (h : Short r (n + W)) : Short (r.bytes n).2 W := by
  rcases h with h | ⟨h, hl⟩
  · rw [bytes_keep (by rw [h]; decide)]; exact .inl h
  · unfold Rd.bytes Rd.take
    have h0 : ¬ (n : Int) < 0 := by omega
    rw [if_neg h0]
    simp only [h, ne_eq, not_true_eq_false, if_false]
    by_cases hq : (r.s.length : Int) < n
    · rw [if_pos hq]; exact .inl rfl
    · rw [if_neg hq]; exact .inr ⟨rfl, by simp; omega⟩
theorem locs_cut : ∀ (k : Nat) {r : Rd} {W : Nat}, Short r (3 * k + W) → Short (readLocs k r).2 W
  | 0, r, W, h => by rw [readLocs]; simpa using h
  | k + 1, r, W, h => by
    rw [readLocs]
    have h1 := num_cut (wd := 1) (W := 2 + (3 * k + W)) (by decide) (by decide) (by rw [show 1 + (2 + (3 * k + W)) = 3 * (k + 1) + W by omega]; exact h)
    have h2 := num_cut (wd := 2) (W := 3 * k + W) (by decide) (by decide) h1
    exact locs_cut k h2
theorem dec_short {s : List UInt8} {n : Int} {r1 : Rd} (h1 : Rd.number ⟨s, 0⟩ 1 = (n, r1)) (hg : ¬ (s.isEmpty = false ∧ (n < 1 ∨ 2 < n))) (hc : Short r1 (3 * n.toNat + 40)) : decP s = (ptZ, 2) := by
  unfold decP
  rw [h1]
  simp only
  rw [if_neg hg]
  have c1 := locs_cut n.toNat hc
  have c2 := num_cut (wd := 2) (W := 38) (by decide) (by decide) c1
  have c3 := num_cut (wd := 6) (W := 32) (by decide) (by decide) c2
  have c4 := byt_cut (n := 32) (W := 0) c3
  have e : ((((((readLocs n.toNat r1).2.number 2).2.number 6).2).bytes 32).2).fin = 2 := by
    rcases c4 with c | ⟨-, c⟩
    · rw [fin_err]
      · exact c
      · have c' : ((((((readLocs n.toNat r1).2.number 2).2.number 6).2).bytes 32).2).e = 2 := c
        rw [c']; decide
    · omega
  rw [if_pos (by rw [e]; decide), e]
/-- cut off anywhere it is none -/
theorem dec_cut {p : Pt} (h : ckE p = 0) (k : Nat) (hk : k < (encP p).length) : decP ((encP p).take k) = (ptZ, 2) := by
  have hlen := encP_len h
  obtain ⟨hl2, hl1, hs32, hbad, -, hin1, hin2⟩ := ok_facts h
  rcases k with _ | k
  · exact dec_short (n := 0) (r1 := ⟨[], 2⟩) rfl (by simp) (.inl rfl)
  · have e0 : encP p = putL p.locs.length 1 ++ (locsL p.locs ++ (putL p.len 2 ++ putL p.birth 6 ++ p.sum)) := by simp [encP]
    have e1 := number_cat (n := (p.locs.length : Int)) (wd := 1) (by decide) (by decide) (by omega) (by show (p.locs.length : Int) ≤ 255; omega) ((locsL p.locs ++ (putL p.len 2 ++ putL p.birth 6 ++ p.sum)).take k)
    obtain ⟨x, e2⟩ := put1 (n := (p.locs.length : Int)) (by omega) (by omega)
    have e3 : (encP p).take (k + 1) = putL p.locs.length 1 ++ (locsL p.locs ++ (putL p.len 2 ++ putL p.birth 6 ++ p.sum)).take k := by rw [e0, e2]; rfl
    rw [e3]
    refine dec_short e1 (by omega) (.inr ⟨rfl, ?_⟩)
    rw [e0, e2] at hlen hk
    simp only [List.length_append, List.length_cons, List.length_nil, List.length_take, Int.toNat_natCast] at hlen hk ⊢
    omega

end Go.Proofs.Ytnjbhooogfonbaa
