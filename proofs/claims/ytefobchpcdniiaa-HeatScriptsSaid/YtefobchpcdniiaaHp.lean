/- Package heat: a heap of items in memory: Len, Less, Swap: their contracts. -/
import Derived.Test.YtefobchpcdniiaaHo
import Derived.Lib.Bytealg
import Derived.StillTailTactics
namespace Go.Proofs.Ytefobchpcdniiaa
open Go Go.RowKit Go.Maps
set_option linter.unusedSimpArgs false
set_option linter.unnecessarySimpa false
set_option linter.unusedVariables false

/-- an item: a key, and what it is worth -/
structure It where
  key : List UInt8
  w : Int
instance : Inhabited It := ⟨⟨[], 0⟩⟩
def itV (i : It) : List Value := [.string (bstr i.key), .int .i64 i.w]
def itsV (l : List It) : List Value := l.flatMap itV
theorem itsV_len : ∀ l : List It, (itsV l).length = 2 * l.length
  | [] => rfl
  | x :: l => by
    have : itsV (x :: l) = .string (bstr x.key) :: .int .i64 x.w :: itsV l := rfl
    rw [this, List.length_cons, List.length_cons, itsV_len l, List.length_cons]
    omega
theorem itsV_get : ∀ (l : List It) (rest : List Value) (i : Nat) (h : i < l.length), (itsV l ++ rest)[2 * i]? = some (.string (bstr l[i].key)) ∧ (itsV l ++ rest)[2 * i + 1]? = some (.int .i64 l[i].w)
  | x :: l, rest, 0, _ => ⟨rfl, rfl⟩
  | x :: l, rest, i + 1, h => by
    have := itsV_get l rest i (by simpa using h)
    have e : itsV (x :: l) ++ rest = .string (bstr x.key) :: .int .i64 x.w :: (itsV l ++ rest) := rfl
    rw [e, show 2 * (i + 1) = 2 * i + 1 + 1 by omega]
    simpa using this
theorem itsV_set : ∀ (l : List It) (rest : List Value) (i : Nat) (x : It), i < l.length → ((itsV l ++ rest).set (2 * i) (.string (bstr x.key))).set (2 * i + 1) (.int .i64 x.w) = itsV (l.set i x) ++ rest
  | y :: l, rest, 0, x, _ => rfl
  | y :: l, rest, i + 1, x, h => by
    have := itsV_set l rest i x (by simpa using h)
    have e : itsV (y :: l) ++ rest = .string (bstr y.key) :: .int .i64 y.w :: (itsV l ++ rest) := rfl
    have e2 : itsV ((y :: l).set (i + 1) x) ++ rest = .string (bstr y.key) :: .int .i64 y.w :: (itsV (l.set i x) ++ rest) := rfl
    rw [e, e2, ← this, show 2 * (i + 1) = 2 * i + 1 + 1 by omega]
    rfl
def swapL (l : List It) (i k : Nat) : List It := (l.set i (l.getD k default)).set k (l.getD i default)
theorem swapL_len (l : List It) (i k : Nat) : (swapL l i k).length = l.length := by simp [swapL]
/-- items in memory: the variable's block lb, the row's block rb: the first m items of c are those of the slice -/
structure HpAt (w : World) (lb rb cap m : Nat) (c : List It) (rest : List Value) : Prop where
  v : Blk w lb 59 #[.slice (some ⟨rb, 0, none⟩) m cap]
  r : Blk w rb 61 (itsV c ++ rest).toArray
  le : m ≤ c.length
  big : c.length ≤ 1000000
  cp : m ≤ cap ∧ cap ≤ maxLen
theorem HpAt.ne {w : World} {lb rb cap m : Nat} {c : List It} {rest : List Value} (h : HpAt w lb rb cap m c rest) : lb ≠ rb := by
  intro e
  have h1 := h.v
  have h2 := h.r
  subst e
  have := Blk.type_eq' h1 h2
  exact absurd this (by decide)
theorem HpAt.below {w w' : World} {lb rb cap m : Nat} {c : List It} {rest : List Value} (h : HpAt w lb rb cap m c rest) (k : Below w.heap.size w w') : HpAt w' lb rb cap m c rest := ⟨h.v.below k h.v.lt, h.r.below k h.r.lt, h.le, h.big, h.cp⟩
theorem HpAt.cells {w : World} {lb rb cap m : Nat} {c : List It} {rest : List Value} (h : HpAt w lb rb cap m c rest) (i : Nat) (hi : i < c.length) : w.cell? ⟨rb, i * 2, none⟩ = some (.string (bstr (c.getD i default).key)) ∧ w.cell? ⟨rb, i * 2 + 1, none⟩ = some (.int .i64 (c.getD i default).w) := by
  obtain ⟨h1, h2⟩ := itsV_get c rest i hi
  rw [Nat.mul_comm] at h1 h2
  have e : c.getD i default = c[i] := by simp [List.getD, hi]
  rw [h.r.cell, h.r.cell, e]
  simp only [List.getElem?_toArray]
  exact ⟨h1, h2⟩
set_option maxHeartbeats 1000000 in
theorem len_items (rb cap m : Nat) (w : World) : Calls Try.prog 43 #[.slice (some ⟨rb, 0, none⟩) m cap] w fun e w' => e = .returned (.int .i64 m) ∧ w' = w := by
  go_enter Try.func43, Try.ntmps43
  go_wp2
  go_ret
  exact ⟨rfl, rfl⟩

set_option maxHeartbeats 1000000 in
theorem swap_any (lb rb cap m : Nat) (c : List It) (rest : List Value) (i k : Nat) (hi : i < m) (hk : k < m) (hne : i ≠ k) (w : World) (h : HpAt w lb rb cap m c rest) :
    Calls Try.prog 45 #[.slice (some ⟨rb, 0, none⟩) m cap, .int .i64 i, .int .i64 k] w fun e w' => e = .returned (.tuple #[]) ∧ HpAt w' lb rb cap m (swapL c i k) rest ∧ Keep w.heap.size (· = rb) w w' := by
  have hle := h.le
  obtain ⟨a0, a1⟩ := h.cells i (by omega)
  obtain ⟨b0, b1⟩ := h.cells k (by omega)
  obtain ⟨X, hX⟩ : ∃ y, c.getD i default = y := ⟨_, rfl⟩
  obtain ⟨Y, hY⟩ : ∃ y, c.getD k default = y := ⟨_, rfl⟩
  rw [hX] at a0 a1
  rw [hY] at b0 b1
  have hfin : (((((itsV c ++ rest).toArray.setIfInBounds (i * 2) (.string (bstr Y.key))).setIfInBounds (i * 2 + 1) (.int .i64 Y.w)).setIfInBounds (k * 2) (.string (bstr X.key))).setIfInBounds (k * 2 + 1) (.int .i64 X.w)) = (itsV (swapL c i k) ++ rest).toArray := by
    simp only [List.setIfInBounds_toArray]
    rw [Nat.mul_comm i, Nat.mul_comm k, itsV_set c rest i Y (by omega), itsV_set (c.set i Y) rest k X (by simp; omega), swapL, hX, hY]
  have r0 := h.r
  obtain ⟨A, hA⟩ : ∃ A, (itsV c ++ rest).toArray = A := ⟨_, rfl⟩
  rw [hA] at r0 hfin
  have r1 := r0.set_ (i * 2) (.string (bstr Y.key))
  have r2 := r1.set_ (i * 2 + 1) (.int .i64 Y.w)
  have r3 := r2.set_ (k * 2) (.string (bstr X.key))
  have r4 := r3.set_ (k * 2 + 1) (.int .i64 X.w)
  have g1 : A[i * 2 + 1]? = some (.int .i64 X.w) := by rw [← r0.cell]; exact a1
  have g2 : A[k * 2]? = some (.string (bstr Y.key)) := by rw [← r0.cell]; exact b0
  have g3 : A[k * 2 + 1]? = some (.int .i64 Y.w) := by rw [← r0.cell]; exact b1
  have s1 := r1.cell (i * 2 + 1)
  rw [Array.getElem?_setIfInBounds_ne (by omega), g1] at s1
  have s2 := r2.cell (k * 2)
  rw [Array.getElem?_setIfInBounds_ne (by omega), Array.getElem?_setIfInBounds_ne (by omega), g2] at s2
  have s3 := r3.cell (k * 2 + 1)
  rw [Array.getElem?_setIfInBounds_ne (by omega), Array.getElem?_setIfInBounds_ne (by omega), Array.getElem?_setIfInBounds_ne (by omega), g3] at s3
  have f0 := r0.frozen (i * 2)
  have f1 := r1.frozen (i * 2 + 1)
  have f2 := r2.frozen (k * 2)
  have f3 := r3.frozen (k * 2 + 1)
  have R4 := Lib.hid r4
  have HF := Lib.hid hfin
  clear hfin g1 g2 g3 r0 r1 r2 r3 r4 hA hX hY
  have T0 : (0 : Int) ≤ i := by omega
  have T1 : (i : Int) < m := by omega
  have T2 : (0 : Int) ≤ k := by omega
  have T3 : (k : Int) < m := by omega
  go_enter Try.func45, Try.ntmps45
  go_wp2_with fail
  go_region
  go_end0
  refine ⟨rfl, ⟨?_, ?_, by rw [swapL_len]; omega, by rw [swapL_len]; exact h.big, h.cp⟩, ?_⟩
  · exact ((((h.v.far (p := ⟨rb, _, none⟩) h.ne _).far (p := ⟨rb, _, none⟩) h.ne _).far (p := ⟨rb, _, none⟩) h.ne _).far (p := ⟨rb, _, none⟩) h.ne _).drew
  · rw [← HF.out]
    exact R4.out.drew
  · exact (((((Keep.refl _ _ _).set1 _ _).set1 _ _).set1 _ _).set1 _ _).drew

set_option maxHeartbeats 1000000 in
theorem swap_same (lb rb cap m : Nat) (c : List It) (rest : List Value) (i : Nat) (hi : i < m) (w : World) (h : HpAt w lb rb cap m c rest) :
    Calls Try.prog 45 #[.slice (some ⟨rb, 0, none⟩) m cap, .int .i64 i, .int .i64 i] w fun e w' => e = .returned (.tuple #[]) ∧ HpAt w' lb rb cap m c rest ∧ Keep w.heap.size (· = rb) w w' := by
  have hle := h.le
  obtain ⟨a0, a1⟩ := h.cells i (by omega)
  obtain ⟨X, hX⟩ : ∃ y, c.getD i default = y := ⟨_, rfl⟩
  rw [hX] at a0 a1
  have hfin : (((((itsV c ++ rest).toArray.setIfInBounds (i * 2) (.string (bstr X.key))).setIfInBounds (i * 2 + 1) (.int .i64 X.w)).setIfInBounds (i * 2) (.string (bstr X.key))).setIfInBounds (i * 2 + 1) (.int .i64 X.w)) = (itsV c ++ rest).toArray := by
    have hs : c.set i X = c := by rw [← hX]; simp [List.getD, show i < c.length by omega]
    simp only [List.setIfInBounds_toArray]
    rw [Nat.mul_comm i, itsV_set c rest i X (by omega), hs, itsV_set c rest i X (by omega), hs]
  have r0 := h.r
  obtain ⟨A, hA⟩ : ∃ A, (itsV c ++ rest).toArray = A := ⟨_, rfl⟩
  rw [hA] at r0 hfin
  have r1 := r0.set_ (i * 2) (.string (bstr X.key))
  have r2 := r1.set_ (i * 2 + 1) (.int .i64 X.w)
  have r3 := r2.set_ (i * 2) (.string (bstr X.key))
  have r4 := r3.set_ (i * 2 + 1) (.int .i64 X.w)
  have g0 : A[i * 2]? = some (.string (bstr X.key)) := by rw [← r0.cell]; exact a0
  have g1 : A[i * 2 + 1]? = some (.int .i64 X.w) := by rw [← r0.cell]; exact a1
  have z0 : i * 2 < A.size := (Array.getElem?_eq_some_iff.1 g0).1
  have z1 : i * 2 + 1 < A.size := (Array.getElem?_eq_some_iff.1 g1).1
  have s1 := r1.cell (i * 2 + 1)
  rw [Array.getElem?_setIfInBounds_ne (by omega), g1] at s1
  have s2 := r2.cell (i * 2)
  rw [Array.getElem?_setIfInBounds_ne (by omega), Array.getElem?_setIfInBounds_self_of_lt z0] at s2
  have s3 := r3.cell (i * 2 + 1)
  rw [Array.getElem?_setIfInBounds_ne (by omega), Array.getElem?_setIfInBounds_self_of_lt (by simp; omega)] at s3
  have f0 := r0.frozen (i * 2)
  have f1 := r1.frozen (i * 2 + 1)
  have f2 := r2.frozen (i * 2)
  have f3 := r3.frozen (i * 2 + 1)
  have R4 := Lib.hid r4
  have HF := Lib.hid (hfin.trans hA.symm)
  have T0 : (0 : Int) ≤ i := by omega
  have T1 : (i : Int) < m := by omega
  clear hfin g0 g1 r0 r1 r2 r3 r4 hA hX
  go_enter Try.func45, Try.ntmps45
  go_wp2_with fail
  go_region
  go_end0
  refine ⟨rfl, ⟨?_, ?_, by omega, h.big, h.cp⟩, ?_⟩
  · exact ((((h.v.far (p := ⟨rb, _, none⟩) h.ne _).far (p := ⟨rb, _, none⟩) h.ne _).far (p := ⟨rb, _, none⟩) h.ne _).far (p := ⟨rb, _, none⟩) h.ne _).drew
  · rw [← HF.out]
    exact R4.out.drew
  · exact (((((Keep.refl _ _ _).set1 _ _).set1 _ _).set1 _ _).set1 _ _).drew

set_option maxHeartbeats 1000000 in
theorem compareString_any (a b : List UInt8) (w : World) :
    Calls Try.prog 47 #[.string (bstr a), .string (bstr b)] w fun e w' => e = .returned (.int .i64 (Lib.compareBytes a b)) ∧ w' = w := by
  go_enter Try.func47, Try.ntmps47
  go_wp2
  rw [run_callFunc_extern Try.func48 (by kernel_rfl) (by kernel_rfl) (by kernel_rfl) (e := Extern.BytealgCompare.compare) (by kernel_rfl), Lib.run_compareString]
  simp only [Result.andThen]
  rw [Oper.upon_value]
  go_wp2
  go_ret
  exact ⟨by simp [bstr], rfl⟩
set_option maxHeartbeats 1000000 in
theorem compare_any (a b : List UInt8) (w : World) :
    Calls Try.prog 46 #[.string (bstr a), .string (bstr b)] w fun e w' => e = .returned (.int .i64 (Lib.compareBytes a b)) ∧ w' = w := by
  go_enter Try.func46, Try.ntmps46
  go_wp2_with fail
  refine (compareString_any a b _).mono ?_
  rintro e w1 ⟨rfl, rfl⟩
  go_wp2
  go_ret
  exact ⟨rfl, rfl⟩
/-- the hotter one, or the one ahead by its key -/
def ltI (a b : It) : Bool := if a.w = b.w then decide (Lib.compareBytes a.key b.key < 0) else decide (b.w < a.w)
theorem swapL_same (c : List It) (i : Nat) (h : i < c.length) : swapL c i i = c := by
  unfold swapL
  simp [List.getD, h]
theorem swap_all (lb rb cap m : Nat) (c : List It) (rest : List Value) (i k : Nat) (hi : i < m) (hk : k < m) (w : World) (h : HpAt w lb rb cap m c rest) :
    Calls Try.prog 45 #[.slice (some ⟨rb, 0, none⟩) m cap, .int .i64 i, .int .i64 k] w fun e w' => e = .returned (.tuple #[]) ∧ HpAt w' lb rb cap m (swapL c i k) rest ∧ Keep w.heap.size (· = rb) w w' := by
  by_cases e : i = k
  · subst e
    rw [swapL_same c i (by have := h.le; omega)]
    exact swap_same lb rb cap m c rest i hi w h
  · exact swap_any lb rb cap m c rest i k hi hk e w h
end Go.Proofs.Ytefobchpcdniiaa
