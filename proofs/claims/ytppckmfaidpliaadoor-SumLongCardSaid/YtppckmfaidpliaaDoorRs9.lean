/- The reference of package sum: root: plain part, how great the digits get. -/
import Derived.Test.YtppckmfaidpliaaDoorRs7
namespace Go.Proofs.YtppckmfaidpliaaDoor
open Go.RowKit
set_option linter.unusedSimpArgs false
set_option linter.unnecessarySimpa false
set_option linter.unusedVariables false

theorem getD_set_ne (l : List Nat) (i k x : Nat) (h : i ≠ k) : (l.set i x).getD k 0 = l.getD k 0 := by
  simp only [List.getD_eq_getElem?_getD, List.getElem?_set, if_neg h]
theorem mulIn_far (ai : Nat) (b : List Nat) (i : Nat) (o : List Nat) (k : Nat) : ∀ j, i + j ≤ k → (mulIn ai b i o j).1.getD k 0 = o.getD k 0
  | 0, _ => rfl
  | j + 1, h => by rw [mulIn, getD_set_ne _ _ _ _ (by omega), mulIn_far ai b i o k j (by omega)]
theorem mulIn_dig {ai : Nat} {b o : List Nat} (i : Nat) (ha : ai ≤ 65535) (hb : All 65535 b) (ho : All 65535 o) : ∀ j, All 65535 (mulIn ai b i o j).1 ∧ (mulIn ai b i o j).2 ≤ 65535
  | 0 => ⟨ho, Nat.zero_le _⟩
  | j + 1 => by
    obtain ⟨h1, h2⟩ := mulIn_dig i ha hb ho j
    have hp : ai * b.getD j 0 ≤ 65535 * 65535 := Nat.mul_le_mul ha (hb j)
    have hx := h1 (i + j)
    rw [mulIn]
    refine ⟨h1.set _ _ (by omega), ?_⟩
    show (_ + _ + _) / 65536 ≤ 65535
    omega
theorem mulOut_dig {a b : List Nat} (ha : All 65535 a) (hb : All 65535 b) : ∀ i, All 65535 (mulOut a b i) ∧ ∀ k, i + b.length ≤ k → (mulOut a b i).getD k 0 = 0
  | 0 => by
    have h : ∀ k, (mulOut a b 0).getD k 0 = 0 := fun k => by
      unfold mulOut
      simp only [List.getD_eq_getElem?_getD, List.getElem?_replicate]
      split <;> simp
    exact ⟨fun k => by rw [h]; omega, fun k _ => h k⟩
  | i + 1 => by
    obtain ⟨h1, h2⟩ := mulOut_dig ha hb i
    obtain ⟨h3, h4⟩ := mulIn_dig i (ha i) hb h1 b.length
    rw [mulOut]
    refine ⟨h3.set _ _ ?_, fun k hk => ?_⟩
    · rw [mulIn_far _ _ _ _ _ _ (Nat.le_refl _), h2 _ (Nat.le_refl _)]; omega
    · rw [getD_set_ne _ _ _ _ (by omega), mulIn_far _ _ _ _ _ _ (by omega), h2 _ (by omega)]
theorem timesL_dig {a b : List Nat} (ha : All 65535 a) (hb : All 65535 b) : All 65535 (timesL a b) := (mulOut_dig ha hb _).1
theorem timesL_len (a b : List Nat) : (timesL a b).length = a.length + b.length := mulOut_len a b _
theorem digL_dig (n : Nat) : ∀ k, All 65535 (digL n k)
  | 0 => fun k => by simp [digL]
  | m + 1 => fun k => by
    have h := digL_dig n m k
    have hx : n / 65536 ^ m % 65536 ≤ 65535 := by omega
    rw [digL]
    simp only [List.getD_eq_getElem?_getD, List.getElem?_append] at h ⊢
    split
    · exact h
    · rw [List.getElem?_singleton]
      split <;> simp [hx]
theorem rootN_lt (p power : Nat) : ∀ s, s ≤ 41 → rootN p power s ≤ 2 ^ 41 - 2 ^ (41 - s)
  | 0, _ => by simp [rootN]
  | s + 1, h => by
    have ih := rootN_lt p power s (by omega)
    have e1 : 41 - s = (40 - s) + 1 := by omega
    have e2 : 41 - (s + 1) = 40 - s := by omega
    have h2 : 2 ^ (40 - s + 1) ≤ 2 ^ 41 := Nat.pow_le_pow_right (by decide) (by omega)
    rw [e1] at ih
    rw [e2, rootN, rootStep]
    rw [Nat.pow_succ] at ih h2
    split <;> omega
theorem bthen {w w1 w2 : World} (h : Below w.heap.size w w1) (k : Below w1.heap.size w1 w2) : Below w.heap.size w w2 :=
  h.trans ((Keep.of_below (S := fun _ => False) k).mono (S' := fun _ => False) h.size (fun _ _ h => h)).below
/-- own rows and fresh blocks, to be read -/
theorem nums_own {w : World} {base n : Nat} {v : Value} {l : List Nat} (h : w.ownsRow base 3 1 v n (natV l)) (hn : 0 < n) : NumsAt w v l := by
  have hl : l.length = n := by have := h.1; simpa [natV] using this
  have h0 := h
  rcases h.2 with ⟨rfl, hn⟩ | ⟨g, cap, cur, rfl, hg, hc, hr⟩
  · omega
  · refine ⟨g, cap, by rw [hl], fun j hj => ?_⟩
    rw [World.ownsRow.cellAt h0 j (by omega)]
    simp [natV, List.getD, hj]
theorem nums_blk {w : World} {g n : Nat} {l : List Nat} (h : Blk w g 3 (natV l).toArray) (hn : l.length = n) : NumsAt w (.slice (some ⟨g, 0, none⟩) n n) l :=
  ⟨g, n, by rw [hn], fun j hj => by rw [h.cell j, natV_get l j hj]⟩
theorem NumsAt.below {w w' : World} {B : Nat} {v : Value} {l : List Nat} (h : NumsAt w v l) (hb : Below B w w') (hl : 0 < l.length) (hB : ∀ g n c, v = .slice (some ⟨g, 0, none⟩) n c → g < B) : NumsAt w' v l := by
  obtain ⟨g, c, rfl, hA⟩ := h
  exact ⟨g, c, rfl, fun j hj => by rw [hb.cell (p := ⟨g, j, none⟩) (hB g _ c rfl)]; exact hA j hj⟩
theorem NumsAt.all {w w' : World} {v : Value} {l : List Nat} (h : NumsAt w v l) (hb : Below w.heap.size w w') : NumsAt w' v l := by
  obtain ⟨g, c, rfl, hA⟩ := h
  exact ⟨g, c, rfl, fun j hj => by rw [hb.cell (p := ⟨g, j, none⟩) (cell_lt (hA j hj))]; exact hA j hj⟩
end Go.Proofs.YtppckmfaidpliaaDoor
