/- Roots on devices, plain laws: behind a crash, a loss, spoilt copies the best root is the one that the document says. -/
import Derived.Test.YtcamcjcmhjldpaaDoorUd
namespace Go.Proofs.YtcamcjcmhjldpaaDoor
open Go Go.RowKit
set_option linter.unusedSimpArgs false
set_option linter.unnecessarySimpa false
set_option linter.unusedVariables false

theorem getD_set {l : List (List UInt8)} {p j : Nat} {s : List UInt8} (hp : p < l.length) : (l.set p s).getD j [] = if p = j then s else l.getD j [] := by
  rw [List.getD_eq_getElem?_getD, List.getElem?_set]
  by_cases h : p = j
  · subst h
    rw [if_pos rfl, if_pos rfl, if_pos hp]
    rfl
  · rw [if_neg h, if_neg h, List.getD_eq_getElem?_getD]
def blank9 : List (List UInt8) := List.replicate 9 []
theorem blank_get (j : Nat) : blank9.getD j [] = [] := by
  unfold blank9
  rw [List.getD_eq_getElem?_getD, List.getElem?_replicate]
  split <;> rfl
theorem new99 : Dv.new 9 9 = clD blank9 blank9 := rfl
theorem ubL_small {u : Ub} (h : ubE u = 0) : (ubL u).length ≤ 1024 := by
  rw [ubL_len h]
  have := (ubE_ok h).2.2
  omega

/-! a crash -/
theorem crash_best {txg : Nat} {a b : List UInt8} (h1 : txg < 1099511627776) (ha : a.length ≤ 900) (hb : b.length ≤ 900) (kl : List Bool) :
    ∃ U : Ub, (U = ⟨txg, a⟩ ∨ U = ⟨(txg : Int) + 1, b⟩) ∧ bestR (((((Dv.new 9 9).uw (txg % 4) (ubL ⟨txg, a⟩)).flush).uw ((txg + 1) % 4) (ubL ⟨(txg : Int) + 1, b⟩)).crash kl) = (U, true) := by
  have eA : ubE ⟨txg, a⟩ = 0 := ubE_of (by simp <;> omega) (by simp <;> omega) (by simp <;> omega)
  have eB : ubE ⟨(txg : Int) + 1, b⟩ = 0 := ubE_of (by simp <;> omega) (by simp <;> omega) (by simp <;> omega)
  have sA := ubL_small eA
  have sB := ubL_small eB
  have dA := ub_dec_enc eA
  have dB := ub_dec_enc eB
  obtain ⟨LA, hLA⟩ : ∃ x, ubL ⟨txg, a⟩ = x := ⟨_, rfl⟩
  obtain ⟨LB, hLB⟩ : ∃ x, ubL ⟨(txg : Int) + 1, b⟩ = x := ⟨_, rfl⟩
  rw [hLA] at sA dA ⊢
  rw [hLB] at sB dB ⊢
  have l9 : blank9.length = 9 := rfl
  rw [new99, uw_flush (by omega) (by omega) sA, uw_crash (by rw [List.length_set]; omega) (by rw [List.length_set]; omega) sB]
  obtain ⟨s1, hs1⟩ : ∃ x, blank9.set (txg % 4) LA = x := ⟨_, rfl⟩
  have l1 : s1.length = 9 := by rw [← hs1, List.length_set]; rfl
  have g1 : ∀ j, s1.getD j [] = if txg % 4 = j then LA else [] := fun j => by rw [← hs1, getD_set (by omega), blank_get]
  rw [hs1]
  have g2 : ∀ (k : Bool) j, (if k = true then s1.set ((txg + 1) % 4) LB else s1).getD j [] = if k = true ∧ (txg + 1) % 4 = j then LB else if txg % 4 = j then LA else [] := by
    intro k j
    cases k
    · rw [if_neg (by decide), if_neg (by simp)]; exact g1 j
    · simp only [if_true, true_and]
      rw [getD_set (by omega), g1]
  have l2 : ∀ k : Bool, (if k = true then s1.set ((txg + 1) % 4) LB else s1).length = 9 := by intro k; cases k <;> simp [l1]
  obtain ⟨k0, hk0⟩ : ∃ x, kpB kl 0 = x := ⟨_, rfl⟩
  obtain ⟨k1, hk1⟩ : ∃ x, kpB kl 1 = x := ⟨_, rfl⟩
  rw [hk0, hk1]
  have r0 : ∀ k, k < 4 → ringD (clD (if k0 = true then s1.set ((txg + 1) % 4) LB else s1) (if k1 = true then s1.set ((txg + 1) % 4) LB else s1)) k = if k0 = true ∧ (txg + 1) % 4 = k then LB else if txg % 4 = k then LA else [] := fun k hk => by rw [ring_cl0 (by rw [l2]; omega) hk, g2]
  have r1 : ∀ k, 4 ≤ k → k < 8 → ringD (clD (if k0 = true then s1.set ((txg + 1) % 4) LB else s1) (if k1 = true then s1.set ((txg + 1) % 4) LB else s1)) k = if k1 = true ∧ (txg + 1) % 4 = k - 4 then LB else if txg % 4 = k - 4 then LA else [] := fun k h4 hk => by rw [ring_cl1 (by rw [l2]; omega) h4 hk, g2]
  obtain ⟨D, hD⟩ : ∃ x, clD (if k0 = true then s1.set ((txg + 1) % 4) LB else s1) (if k1 = true then s1.set ((txg + 1) % 4) LB else s1) = x := ⟨_, rfl⟩
  rw [hD] at r0 r1 ⊢
  have only : ∀ j, j < 8 → ∀ u, ubD (ringD D j) = (u, 0) → u = ⟨txg, a⟩ ∨ (u = ⟨(txg : Int) + 1, b⟩ ∧ (k0 = true ∨ k1 = true)) := by
    intro j hj u hu
    by_cases h4 : j < 4
    · rw [r0 j h4] at hu
      split at hu
      · rename_i hc; rw [dB] at hu; cases hu; exact .inr ⟨rfl, .inl hc.1⟩
      · split at hu
        · rw [dA] at hu; cases hu; exact .inl rfl
        · cases hu
    · rw [r1 j (by omega) hj] at hu
      split at hu
      · rename_i hc; rw [dB] at hu; cases hu; exact .inr ⟨rfl, .inr hc.1⟩
      · split at hu
        · rw [dA] at hu; cases hu; exact .inl rfl
        · cases hu
  by_cases hk : k0 = true ∨ k1 = true
  · refine ⟨⟨(txg : Int) + 1, b⟩, .inr rfl, bestR_is ?_ (by simp; omega)⟩
    have lt : ∀ j, j < 8 → ∀ u, ubD (ringD D j) = (u, 0) → u.txg % 4 = (j % 4 : Nat) → u = ⟨(txg : Int) + 1, b⟩ ∨ u.txg < (⟨(txg : Int) + 1, b⟩ : Ub).txg := fun j hj u hu _ => (only j hj u hu).elim (fun e => .inr (by rw [e]; simp; omega)) (fun e => .inl e.1)
    rcases hk with hk | hk
    · exact best_is (p := (txg + 1) % 4) (by omega) (by simp; omega) (by rw [r0 _ (by omega), if_pos ⟨hk, rfl⟩, dB]) (by simp only; omega) lt
    · exact best_is (p := (txg + 1) % 4 + 4) (by omega) (by simp; omega) (by rw [r1 _ (by omega) (by omega), if_pos ⟨hk, by omega⟩, dB]) (by simp only; omega) lt
  · refine ⟨⟨txg, a⟩, .inl rfl, bestR_is ?_ (by simp)⟩
    have lt : ∀ j, j < 8 → ∀ u, ubD (ringD D j) = (u, 0) → u.txg % 4 = (j % 4 : Nat) → u = ⟨txg, a⟩ ∨ u.txg < (⟨txg, a⟩ : Ub).txg := fun j hj u hu _ => (only j hj u hu).elim (fun e => .inl e) (fun e => absurd e.2 hk)
    exact best_is (p := txg % 4) (by omega) (by simp) (by rw [r0 _ (by omega), if_neg (fun e => hk (.inl e.1)), if_pos rfl, dA]) (by simp only; omega) lt

/-! roots that were flushed one behind the other -/
def secsN (us : Nat → Ub) : Nat → List (List UInt8)
  | 0 => blank9
  | i + 1 => (secsN us i).set (i % 4) (ubL (us i))
theorem secs_len (us : Nat → Ub) : ∀ i, (secsN us i).length = 9
  | 0 => rfl
  | i + 1 => by rw [secsN, List.length_set, secs_len us i]
theorem secs_get (us : Nat → Ub) : ∀ i at_, at_ < 4 → (secsN us i).getD at_ [] = if at_ < i then ubL (us (i - 1 - (i - 1 - at_) % 4)) else []
  | 0, at_, _ => by rw [if_neg (by omega)]; exact blank_get at_
  | i + 1, at_, h => by
    rw [secsN, getD_set (by rw [secs_len]; omega), secs_get us i at_ h]
    by_cases e : i % 4 = at_
    · rw [if_pos e, if_pos (by omega)]
      congr 2
      omega
    · rw [if_neg e]
      by_cases h2 : at_ < i
      · rw [if_pos h2, if_pos (by omega)]
        congr 2
        omega
      · rw [if_neg h2, if_neg (by omega)]
theorem secs_flush (us : Nat → Ub) {i : Nat} (h : ubE (us i) = 0) : ((clD (secsN us i) (secsN us i)).uw (i % 4) (ubL (us i))).flush = clD (secsN us (i + 1)) (secsN us (i + 1)) :=
  uw_flush (by rw [secs_len]; omega) (by rw [secs_len]; omega) (ubL_small h)
theorem loss_best (us : Nat → Ub) {n which : Nat} (h1 : 1 ≤ n) (hw : which < 2) (hu : ∀ i, i < n → ubE (us i) = 0 ∧ (us i).txg = i) : bestR ((clD (secsN us n) (secsN us n)).lose which) = (us (n - 1), true) := by
  obtain ⟨hE, hT⟩ := hu (n - 1) (by omega)
  refine bestR_is ?_ (by rw [hT]; omega)
  have key : ∀ (D : Dv) (off : Nat), off = 0 ∨ off = 4 → (∀ k, k < 8 → ringD D k = if off ≤ k ∧ k < off + 4 then (secsN us n).getD (k - off) [] else []) → bestU D = us (n - 1) := by
    intro D off ho hr
    refine best_is (p := (n - 1) % 4 + off) (by omega) (by rw [hT]; omega) ?_ (by rw [hT]; omega) ?_
    · rw [hr _ (by omega), if_pos (by omega), show (n - 1) % 4 + off - off = (n - 1) % 4 by omega, secs_get _ _ _ (by omega), if_pos (by omega), show n - 1 - (n - 1 - (n - 1) % 4) % 4 = n - 1 by omega]
      exact ub_dec_enc hE
    · intro j hj u hd _
      rw [hr j hj] at hd
      split at hd
      · rw [secs_get _ _ _ (by omega)] at hd
        split at hd
        · obtain ⟨e1, e2⟩ := hu (n - 1 - (n - 1 - (j - off)) % 4) (by omega)
          rw [ub_dec_enc e1] at hd
          cases hd
          by_cases e : (n - 1 - (j - off)) % 4 = 0
          · left; rw [e, Nat.sub_zero]
          · right; rw [e2, hT]; omega
        · cases hd
      · cases hd
  have hl : 4 ≤ (secsN us n).length := by rw [secs_len]; omega
  rcases (show which = 0 ∨ which = 1 by omega) with rfl | rfl
  · refine key _ 4 (.inr rfl) (fun k hk => ?_)
    rw [show ((0 : Nat) : Int) = 0 from rfl, ring_lost0 hl hk]
    by_cases h : k < 4
    · rw [if_pos h, if_neg (by omega)]
    · rw [if_neg h, if_pos (by omega)]
  · refine key _ 0 (.inl rfl) (fun k hk => ?_)
    rw [show ((1 : Nat) : Int) = 1 from rfl, ring_lost1 hl hk]
    by_cases h : k < 4
    · rw [if_pos h, if_pos (by omega)]; rfl
    · rw [if_neg h, if_neg (by omega)]

/-! copies that are spoilt, one behind the other -/
def junkT : List UInt8 := [106, 117, 110, 107]
def spN (us : Nat → Ub) (n : Nat) : Nat → List (List UInt8)
  | 0 => secsN us n
  | s + 1 => (spN us n s).set ((n - 1 - s) % 4) junkT
theorem sp_len (us : Nat → Ub) (n : Nat) : ∀ s, (spN us n s).length = 9
  | 0 => secs_len us n
  | s + 1 => by rw [spN, List.length_set, sp_len us n s]
theorem sp_get (us : Nat → Ub) (n : Nat) : ∀ s, s ≤ n → ∀ at_, at_ < 4 → (spN us n s).getD at_ [] = if at_ < n ∧ (n - 1 - at_) % 4 < s then junkT else (secsN us n).getD at_ []
  | 0, _, at_, _ => by rw [if_neg (by omega)]; rfl
  | s + 1, hs, at_, h => by
    rw [spN, getD_set (by rw [sp_len]; omega), sp_get us n s (by omega) at_ h]
    by_cases e : (n - 1 - s) % 4 = at_
    · rw [if_pos e, if_pos (by omega)]
    · rw [if_neg e]
      by_cases h2 : at_ < n ∧ (n - 1 - at_) % 4 < s
      · rw [if_pos h2, if_pos (by omega)]
      · rw [if_neg h2]
        by_cases h3 : at_ < n ∧ (n - 1 - at_) % 4 < s + 1
        · exfalso; omega
        · rw [if_neg h3]
theorem sp_spoil (us : Nat → Ub) (n s : Nat) : ((clD (spN us n s) (spN us n s)).spoilAt ⟨0, ((n - 1 - s) % 4 : Nat)⟩ junkT).spoilAt ⟨1, ((n - 1 - s) % 4 : Nat)⟩ junkT = clD (spN us n (s + 1)) (spN us n (s + 1)) := by
  rw [spoil_cl0 (by rw [sp_len]; omega) (by decide), spoil_cl1 (by rw [sp_len]; omega) (by decide)]
  rfl
theorem ubD_junk : ubD junkT = (zUb, 2) := rfl
theorem sp_ring (us : Nat → Ub) (n s : Nat) {k : Nat} (hk : k < 8) : ringD (clD (spN us n s) (spN us n s)) k = (spN us n s).getD (k % 4) [] := by
  by_cases h : k < 4
  · rw [ring_cl0 (by rw [sp_len]; omega) h, Nat.mod_eq_of_lt h]
  · rw [ring_cl1 (by rw [sp_len]; omega) (by omega) hk, show k % 4 = k - 4 by omega]
theorem newest_some (us : Nat → Ub) {n s : Nat} (hs : s ≤ 3) (h1 : s < n) (hu : ∀ i, i < n → ubE (us i) = 0 ∧ (us i).txg = i) : bestR (clD (spN us n s) (spN us n s)) = (us (n - 1 - s), true) := by
  obtain ⟨hE, hT⟩ := hu (n - 1 - s) (by omega)
  refine bestR_is ?_ (by rw [hT]; omega)
  refine best_is (p := (n - 1 - s) % 4) (by omega) (by rw [hT]; omega) ?_ (by rw [hT]; omega) ?_
  · rw [sp_ring _ _ _ (by omega), sp_get _ _ _ (by omega) _ (by omega), if_neg (by omega), secs_get _ _ _ (by omega), if_pos (by omega), show n - 1 - (n - 1 - (n - 1 - s) % 4 % 4) % 4 = n - 1 - s by omega]
    exact ub_dec_enc hE
  · intro j hj u hd _
    rw [sp_ring _ _ _ hj, sp_get _ _ _ (by omega) _ (by omega)] at hd
    split at hd
    · cases hd
    · rename_i hc
      rw [secs_get _ _ _ (by omega)] at hd
      split at hd
      · rename_i hlt
        obtain ⟨e1, e2⟩ := hu (n - 1 - (n - 1 - j % 4) % 4) (by omega)
        rw [ub_dec_enc e1] at hd
        cases hd
        by_cases e : (n - 1 - j % 4) % 4 = s
        · left; rw [e]
        · right; rw [e2, hT]; omega
      · cases hd
theorem newest_none (us : Nat → Ub) {n s : Nat} (hs : s ≤ n) (h : n ≤ s ∨ 4 ≤ s) : bestR (clD (spN us n s) (spN us n s)) = (zUb, false) := by
  refine bestR_none (best_none 8 (fun j hj => ?_))
  rw [sp_ring _ _ _ hj, sp_get _ _ _ hs _ (by omega)]
  split
  · decide
  · rename_i hc
    rw [secs_get _ _ _ (by omega), if_neg (by omega)]
    decide
end Go.Proofs.YtcamcjcmhjldpaaDoor
