/- Package heat: plain laws of the heap of items: what Init and Pop make. -/
import Derived.Test.YtefobchpcdniiaaHs
namespace Go.Proofs.Ytefobchpcdniiaa
open Go
set_option linter.unusedSimpArgs false
set_option linter.unnecessarySimpa false
set_option linter.unusedVariables false

/-! the order of bytes -/
theorem cmp_refl : ∀ a : List UInt8, Lib.compareBytes a a = 0
  | [] => rfl
  | x :: a => by
    have h : ¬ x < x := UInt8.lt_irrefl x
    rw [Lib.compareBytes, if_neg h, if_neg h, cmp_refl a]
theorem cmp_swap : ∀ a b : List UInt8, Lib.compareBytes b a = - Lib.compareBytes a b
  | [], [] => rfl
  | [], _ :: _ => rfl
  | _ :: _, [] => rfl
  | x :: a, y :: b => by
    rw [Lib.compareBytes, Lib.compareBytes]
    by_cases h1 : x < y
    · have h2 : ¬ y < x := fun h => UInt8.lt_irrefl x (UInt8.lt_trans h1 h)
      rw [if_neg h2, if_pos h1, if_pos h1]; decide
    · by_cases h2 : y < x
      · rw [if_pos h2, if_neg h1, if_pos h2]
      · rw [if_neg h2, if_neg h1, if_neg h1, if_neg h2, cmp_swap a b]
theorem cmp_eq0 : ∀ a b : List UInt8, Lib.compareBytes a b = 0 → a = b
  | [], [], _ => rfl
  | [], _ :: _, h => by rw [Lib.compareBytes] at h; omega
  | _ :: _, [], h => by rw [Lib.compareBytes] at h; omega
  | x :: a, y :: b, h => by
    rw [Lib.compareBytes] at h
    by_cases h1 : x < y
    · rw [if_pos h1] at h; omega
    · rw [if_neg h1] at h
      by_cases h2 : y < x
      · rw [if_pos h2] at h; omega
      · rw [if_neg h2] at h
        have e : x = y := by
          have h3 := UInt8.le_antisymm (UInt8.not_lt.1 h2) (UInt8.not_lt.1 h1)
          exact h3
        rw [e, cmp_eq0 a b h]
theorem cmp_trans : ∀ a b c : List UInt8, Lib.compareBytes a b < 0 → Lib.compareBytes b c < 0 → Lib.compareBytes a c < 0
  | [], [], c, h, _ => by rw [Lib.compareBytes] at h; omega
  | [], _ :: _, [], _, h => by rw [Lib.compareBytes] at h; omega
  | [], _ :: _, _ :: _, _, _ => by rw [Lib.compareBytes]; omega
  | _ :: _, [], c, h, _ => by rw [Lib.compareBytes] at h; omega
  | _ :: _, _ :: _, [], _, h => by rw [Lib.compareBytes] at h; omega
  | x :: a, y :: b, z :: c, h, k => by
    rw [Lib.compareBytes] at h k ⊢
    by_cases h1 : x < y
    · by_cases h2 : y < z
      · rw [if_pos (UInt8.lt_trans h1 h2)]; omega
      · rw [if_neg h2] at k
        by_cases h3 : z < y
        · rw [if_pos h3] at k; omega
        · have e : y = z := UInt8.le_antisymm (UInt8.not_lt.1 h3) (UInt8.not_lt.1 h2)
          rw [← e, if_pos h1]; omega
    · rw [if_neg h1] at h
      by_cases h4 : y < x
      · rw [if_pos h4] at h; omega
      · have e : x = y := UInt8.le_antisymm (UInt8.not_lt.1 h4) (UInt8.not_lt.1 h1)
        rw [if_neg h4] at h
        subst e
        by_cases h2 : x < z
        · rw [if_pos h2]; omega
        · rw [if_neg h2] at k ⊢
          by_cases h3 : z < x
          · rw [if_pos h3] at k; omega
          · rw [if_neg h3] at k ⊢
            exact cmp_trans a b c h k

/-! the order of items -/
def leI (a b : It) : Prop := ltI b a = false
theorem ltI_iff (a b : It) : ltI a b = true ↔ b.w < a.w ∨ (a.w = b.w ∧ Lib.compareBytes a.key b.key < 0) := by
  unfold ltI
  split
  · rename_i h; simp only [decide_eq_true_eq]; omega
  · rename_i h; simp only [decide_eq_true_eq]; omega
theorem leI_iff (a b : It) : leI a b ↔ b.w < a.w ∨ (a.w = b.w ∧ Lib.compareBytes a.key b.key ≤ 0) := by
  have h := ltI_iff b a
  have hs := cmp_swap a.key b.key
  unfold leI
  rw [← Bool.not_eq_true, h]
  omega
theorem leI_refl (a : It) : leI a a := by rw [leI_iff, cmp_refl]; omega
theorem leI_total (a b : It) : leI a b ∨ leI b a := by
  rw [leI_iff, leI_iff]
  have hs := cmp_swap a.key b.key
  omega
theorem leI_of_lt {a b : It} (h : ltI a b = true) : leI a b := by
  rw [ltI_iff] at h
  rw [leI_iff]
  omega
theorem leI_trans {a b c : It} (h : leI a b) (k : leI b c) : leI a c := by
  rw [leI_iff] at h k ⊢
  by_cases h1 : Lib.compareBytes a.key b.key = 0
  · have e := cmp_eq0 _ _ h1
    rw [e]
    rw [e] at h
    omega
  · by_cases h2 : Lib.compareBytes b.key c.key = 0
    · have e := cmp_eq0 _ _ h2
      rw [← e]
      rw [← e] at k
      omega
    · have h3 := cmp_trans a.key b.key c.key
      omega
theorem leI_antisymm {a b : It} (h : leI a b) (k : leI b a) : a = b := by
  rw [leI_iff] at h k
  have hs := cmp_swap a.key b.key
  obtain ⟨ak, aw⟩ := a
  obtain ⟨bk, bw⟩ := b
  simp only at h k hs
  obtain rfl : aw = bw := by omega
  have := cmp_eq0 ak bk (by omega)
  rw [this]

/-! swaps -/
theorem swapL_get (c : List It) (i k p : Nat) (hi : i < c.length) (hk : k < c.length) : (swapL c i k).getD p default = if p = k then c.getD i default else if p = i then c.getD k default else c.getD p default := by
  unfold swapL
  simp only [List.getD_eq_getElem?_getD, List.getElem?_set, List.length_set]
  by_cases h1 : k = p
  · subst h1; simp [hk]
  · by_cases h2 : i = p
    · subst h2; simp [h1, Ne.symm h1, hi]
    · simp [h1, h2, Ne.symm h1, Ne.symm h2]
theorem swapL_take (c : List It) (i k n : Nat) (hi : i < n) (hk : k < n) : (swapL c i k).take n = swapL (c.take n) i k := by
  unfold swapL
  rw [List.take_set, List.take_set]
  simp [List.getD_eq_getElem?_getD, List.getElem?_take, hi, hk]
theorem swapL_perm (c : List It) (i k : Nat) (hi : i < c.length) (hk : k < c.length) : (swapL c i k).Perm c := by
  unfold swapL
  have := List.set_set_perm hi hk
  simpa [List.getD_eq_getElem?_getD, hi, hk] using this
theorem swapL_drop (c : List It) (i k n : Nat) (hi : i < n) (hk : k < n) : (swapL c i k).drop n = c.drop n := by
  unfold swapL
  rw [List.drop_set_of_lt hk, List.drop_set_of_lt hi]
theorem kid_lt {n : Nat} {c : List It} {i : Nat} (h : 2 * i + 1 < n) : kidL n c i < n ∧ i < kidL n c i ∧ (kidL n c i = 2 * i + 1 ∨ kidL n c i = 2 * i + 2) := by
  unfold kidL
  split <;> omega
theorem down_perm (n : Nat) : ∀ (f : Nat) (c : List It) (i : Nat), n ≤ c.length → ((downL n f c i).take n).Perm (c.take n) ∧ (downL n f c i).drop n = c.drop n
  | 0, _, _, _ => ⟨List.Perm.refl _, rfl⟩
  | f + 1, c, i, hn => by
    rw [downL]
    split
    · rename_i h
      obtain ⟨h1, h2, _⟩ := kid_lt (c := c) h
      split
      · obtain ⟨p1, p2⟩ := down_perm n f (swapL c i (kidL n c i)) (kidL n c i) (by rw [swapL_len]; exact hn)
        refine ⟨p1.trans ?_, p2.trans (swapL_drop _ _ _ _ (by omega) h1)⟩
        rw [swapL_take _ _ _ _ (by omega) h1]
        exact swapL_perm _ _ _ (by simp; omega) (by simp; omega)
      · exact ⟨List.Perm.refl _, rfl⟩
    · exact ⟨List.Perm.refl _, rfl⟩

/-! the heap -/
def Kid (p q : Nat) : Prop := q = 2 * p + 1 ∨ q = 2 * p + 2
/-- from place k on no item is behind its children, of the first n -/
def IsH (n : Nat) (c : List It) (k : Nat) : Prop := ∀ p q, k ≤ p → Kid p q → q < n → leI (c.getD p default) (c.getD q default)
theorem kid_least {n : Nat} {c : List It} {i q : Nat} (hk : Kid i q) (hq : q < n) : leI (c.getD (kidL n c i) default) (c.getD q default) := by
  unfold kidL
  split
  · rename_i h
    rcases hk with rfl | rfl
    · exact leI_of_lt h.2
    · exact leI_refl _
  · rename_i h
    rcases hk with rfl | rfl
    · exact leI_refl _
    · unfold leI
      rw [← Bool.not_eq_true]
      exact fun hh => h ⟨hq, hh⟩
theorem down_heap (n k : Nat) : ∀ (f : Nat) (c : List It) (i : Nat), n ≤ c.length → n ≤ f + i → k ≤ i →
    (∀ p q, k ≤ p → p ≠ i → Kid p q → q < n → leI (c.getD p default) (c.getD q default)) →
    (∀ p q, k ≤ p → Kid p i → Kid i q → q < n → leI (c.getD p default) (c.getD q default)) → IsH n (downL n f c i) k
  | 0, c, i, _, hf, _, hA, _ => by
    intro p q hp hk hq
    refine hA p q hp ?_ hk hq
    unfold Kid at hk
    omega
  | f + 1, c, i, hn, hf, hki, hA, hB => by
    rw [downL]
    split
    · rename_i h
      obtain ⟨h1, h2, h3⟩ := kid_lt (c := c) h
      have hkid : Kid i (kidL n c i) := by unfold Kid; omega
      obtain ⟨j, hj⟩ : ∃ j, kidL n c i = j := ⟨_, rfl⟩
      have hleast : ∀ q, Kid i q → q < n → leI (c.getD j default) (c.getD q default) := fun q a b => by rw [← hj]; exact kid_least a b
      rw [hj] at h1 h2 h3 hkid ⊢
      split
      · rename_i hlt
        have hle := leI_of_lt hlt
        have hi : i < c.length := by omega
        have hjc : j < c.length := by omega
        refine down_heap n k f (swapL c i j) j (by rw [swapL_len]; exact hn) (by omega) (by omega) ?_ ?_
        · intro p q hp hpj hk hq
          rw [swapL_get c i j p hi hjc, swapL_get c i j q hi hjc, if_neg hpj]
          by_cases hpi : p = i
          · subst hpi
            rw [if_pos rfl]
            by_cases hqj : q = j
            · rw [if_pos hqj]; exact hle
            · rw [if_neg hqj, if_neg (by unfold Kid at hk; omega)]
              exact hleast q hk hq
          · rw [if_neg hpi]
            have hqj : q ≠ j := by
              intro e
              subst e
              unfold Kid at hk hkid
              omega
            rw [if_neg hqj]
            by_cases hqi : q = i
            · subst hqi
              rw [if_pos rfl]
              exact hB p j hp hk hkid h1
            · rw [if_neg hqi]
              exact hA p q hp hpi hk hq
        · intro p q hp hpj hk hq
          have hpi : p = i := by unfold Kid at hpj hkid; omega
          subst hpi
          have hqj : q ≠ j := by unfold Kid at hk; omega
          have hqi : q ≠ p := by unfold Kid at hk; omega
          rw [swapL_get c p j p hi hjc, swapL_get c p j q hi hjc, if_neg (by omega), if_pos rfl, if_neg hqj, if_neg hqi]
          exact hA j q (by omega) (by omega) hk hq
      · rename_i hnl
        have hnl : leI (c.getD i default) (c.getD j default) := by unfold leI; simpa using hnl
        intro p q hp hk hq
        by_cases hpi : p = i
        · subst hpi
          exact leI_trans hnl (hleast q hk hq)
        · exact hA p q hp hpi hk hq
    · rename_i h
      intro p q hp hk hq
      refine hA p q hp ?_ hk hq
      unfold Kid at hk
      omega
theorem init_heap (n : Nat) : ∀ (k : Nat) (c : List It), n ≤ c.length → IsH n c k → IsH n (initD n k c) 0 ∧ ((initD n k c).take n).Perm (c.take n)
  | 0, c, _, h => ⟨h, List.Perm.refl _⟩
  | k + 1, c, hn, h => by
    rw [initD]
    have h1 : IsH n (downL n n c k) k := down_heap n k n c k hn (by omega) (Nat.le_refl _) (fun p q hp hpk hk hq => h p q (by omega) hk hq) (fun p q hp hk _ _ => by unfold Kid at hk; omega)
    obtain ⟨a, b⟩ := init_heap n k (downL n n c k) (by rw [downL_len]; exact hn) h1
    exact ⟨a, b.trans (down_perm n n c k hn).1⟩
theorem init_is (n : Nat) (c : List It) (hn : n ≤ c.length) : IsH n (initD n (n / 2) c) 0 ∧ ((initD n (n / 2) c).take n).Perm (c.take n) :=
  init_heap n (n / 2) c hn (fun p q hp hk hq => by unfold Kid at hk; omega)
theorem root_least {n : Nat} {c : List It} (h : IsH n c 0) : ∀ q, q < n → leI (c.getD 0 default) (c.getD q default) := by
  intro q
  induction q using Nat.strongRecOn with
  | _ q ih =>
    intro hq
    by_cases h0 : q = 0
    · subst h0; exact leI_refl _
    · have hp : (q - 1) / 2 < q := by omega
      exact leI_trans (ih _ hp (by omega)) (h ((q - 1) / 2) q (by omega) (by unfold Kid; omega) hq)
/-- the items in order -/
def Srt (s : List It) : Prop := s.Pairwise leI
theorem pop_is (m : Nat) (c : List It) (x : It) (s : List It) (hn : m + 1 ≤ c.length) (h : IsH (m + 1) c 0) (hp : (c.take (m + 1)).Perm (x :: s)) (hs : Srt (x :: s)) :
    (downL m m (swapL c 0 m) 0).getD m default = x ∧ IsH m (downL m m (swapL c 0 m) 0) 0 ∧ ((downL m m (swapL c 0 m) 0).take m).Perm s := by
  have hx : c.getD 0 default = x := by
    have h1 : c.getD 0 default ∈ c.take (m + 1) := by
      cases c with
      | nil => simp at hn
      | cons y c => simp
    have h2 := hp.mem_iff.1 h1
    have h3 : leI x (c.getD 0 default) := by
      rcases List.mem_cons.1 h2 with e | e
      · rw [e]; exact leI_refl _
      · exact (List.pairwise_cons.1 hs).1 _ e
    have h4 : x ∈ c.take (m + 1) := hp.mem_iff.2 (by simp)
    obtain ⟨q, hq, e⟩ := List.getElem_of_mem h4
    have hq1 : q < m + 1 := by rw [List.length_take] at hq; omega
    have h5 := root_least h q hq1
    have e2 : c.getD q default = x := by rw [← e]; simp [List.getD_eq_getElem?_getD, show q < c.length by omega]
    rw [e2] at h5
    exact leI_antisymm h5 h3
  have hsl : (swapL c 0 m).length = c.length := swapL_len c 0 m
  have hg : ∀ p, (swapL c 0 m).getD p default = if p = m then c.getD 0 default else if p = 0 then c.getD m default else c.getD p default := fun p => swapL_get c 0 m p (by omega) (by omega)
  obtain ⟨p1, p2⟩ := down_perm m m (swapL c 0 m) 0 (by omega)
  refine ⟨?_, ?_, ?_⟩
  · have e : (downL m m (swapL c 0 m) 0).getD m default = (swapL c 0 m).getD m default := by
      have := congrArg (fun l => l.getD 0 default) p2
      simpa [List.getD_eq_getElem?_getD, List.getElem?_drop] using this
    rw [e, hg, if_pos rfl, hx]
  · refine down_heap m 0 m (swapL c 0 m) 0 (by omega) (by omega) (Nat.le_refl _) ?_ ?_
    · intro p q _ hp0 hk hq
      rw [hg, hg, if_neg (by unfold Kid at hk; omega), if_neg hp0, if_neg (by omega), if_neg (by unfold Kid at hk; omega)]
      exact h p q (Nat.zero_le _) hk (by omega)
    · intro p q _ hk
      unfold Kid at hk
      omega
  · refine p1.trans ?_
    have h1 : ((swapL c 0 m).take (m + 1)).Perm (x :: s) := by
      rw [swapL_take c 0 m (m + 1) (by omega) (by omega)]
      exact (swapL_perm _ 0 m (by simp; omega) (by simp; omega)).trans hp
    have h2 : (swapL c 0 m).take (m + 1) = (swapL c 0 m).take m ++ [x] := by
      rw [List.take_succ_eq_append_getElem (by omega)]
      have e := hg m
      rw [if_pos rfl, hx] at e
      have e2 : (swapL c 0 m)[m] = x := by rw [← e]; simp [List.getD_eq_getElem?_getD, show m < (swapL c 0 m).length by omega]
      rw [e2]
    rw [h2] at h1
    have h3 : (x :: (swapL c 0 m).take m).Perm (x :: s) := (List.perm_append_comm (l₁ := [x])).trans h1
    exact h3.cons_inv
/-! sorting -/
def insI (x : It) : List It → List It
  | [] => [x]
  | y :: l => if ltI y x then y :: insI x l else x :: y :: l
def sortI (l : List It) : List It := l.foldr insI []
theorem insI_perm (x : It) : ∀ l, (insI x l).Perm (x :: l)
  | [] => List.Perm.refl _
  | y :: l => by
    rw [insI]
    split
    · exact ((insI_perm x l).cons y).trans (List.Perm.swap x y l)
    · exact List.Perm.refl _
theorem sortI_perm : ∀ l, (sortI l).Perm l
  | [] => List.Perm.refl _
  | x :: l => (insI_perm x _).trans ((sortI_perm l).cons x)
theorem insI_srt (x : It) : ∀ l, Srt l → Srt (insI x l)
  | [], _ => by simp [insI, Srt]
  | y :: l, h => by
    obtain ⟨h1, h2⟩ := List.pairwise_cons.1 h
    rw [insI]
    split
    · rename_i hlt
      refine List.pairwise_cons.2 ⟨fun z hz => ?_, insI_srt x l h2⟩
      rcases List.mem_cons.1 ((insI_perm x l).mem_iff.1 hz) with rfl | hz
      · exact leI_of_lt hlt
      · exact h1 z hz
    · rename_i hlt
      have hxy : leI x y := by unfold leI; simpa using hlt
      refine List.pairwise_cons.2 ⟨fun z hz => ?_, h⟩
      rcases List.mem_cons.1 hz with rfl | hz
      · exact hxy
      · exact leI_trans hxy (h1 z hz)
theorem sortI_srt : ∀ l, Srt (sortI l)
  | [] => List.Pairwise.nil
  | x :: l => insI_srt x _ (sortI_srt l)
theorem srt_eq : ∀ {a b : List It}, Srt a → Srt b → a.Perm b → a = b
  | [], b, _, _, h => (List.Perm.nil_eq h)
  | x :: a, b, ha, hb, h => by
    cases b with
    | nil => exact absurd h.length_eq (by simp)
    | cons y b =>
      obtain ⟨h1, h2⟩ := List.pairwise_cons.1 ha
      obtain ⟨h3, h4⟩ := List.pairwise_cons.1 hb
      have e : x = y := by
        have hx : x ∈ y :: b := h.mem_iff.1 (by simp)
        have hy : y ∈ x :: a := h.mem_iff.2 (by simp)
        have k1 : leI y x := by
          rcases List.mem_cons.1 hx with e | e
          · rw [e]; exact leI_refl _
          · exact h3 _ e
        have k2 : leI x y := by
          rcases List.mem_cons.1 hy with e | e
          · rw [e]; exact leI_refl _
          · exact h1 _ e
        exact leI_antisymm k2 k1
      subst e
      rw [srt_eq h2 h4 h.cons_inv]
end Go.Proofs.Ytefobchpcdniiaa
