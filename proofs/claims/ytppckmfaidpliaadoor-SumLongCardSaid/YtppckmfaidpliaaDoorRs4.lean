/- The reference of package sum: times: what it computes, and how great its digits get. -/
import Derived.Test.YtppckmfaidpliaaDoorRs3
namespace Go.Proofs.YtppckmfaidpliaaDoor
open Go.RowKit
set_option linter.unusedSimpArgs false
set_option linter.unnecessarySimpa false
set_option linter.unusedVariables false

/-- one digit times a number, added from place i on: j digits are done; the digits, and what is carried -/
def mulIn (ai : Nat) (b : List Nat) (i : Nat) (o : List Nat) : Nat → List Nat × Nat
  | 0 => (o, 0)
  | j + 1 => ((mulIn ai b i o j).1.set (i + j) (((mulIn ai b i o j).1.getD (i + j) 0 + ai * b.getD j 0 + (mulIn ai b i o j).2) % 65536), ((mulIn ai b i o j).1.getD (i + j) 0 + ai * b.getD j 0 + (mulIn ai b i o j).2) / 65536)
def mulOut (a b : List Nat) : Nat → List Nat
  | 0 => List.replicate (a.length + b.length) 0
  | i + 1 => (mulIn (a.getD i 0) b i (mulOut a b i) b.length).1.set (i + b.length) ((mulIn (a.getD i 0) b i (mulOut a b i) b.length).1.getD (i + b.length) 0 + (mulIn (a.getD i 0) b i (mulOut a b i) b.length).2)
def timesL (a b : List Nat) : List Nat := mulOut a b a.length
theorem mulIn_len (ai : Nat) (b : List Nat) (i : Nat) (o : List Nat) : ∀ j, (mulIn ai b i o j).1.length = o.length
  | 0 => rfl
  | j + 1 => by rw [mulIn, List.length_set, mulIn_len ai b i o j]
theorem mulOut_len (a b : List Nat) : ∀ i, (mulOut a b i).length = a.length + b.length
  | 0 => by simp [mulOut]
  | i + 1 => by rw [mulOut, List.length_set, mulIn_len, mulOut_len a b i]
def All (M : Nat) (l : List Nat) : Prop := ∀ k, l.getD k 0 ≤ M
theorem All.set {M : Nat} {l : List Nat} (h : All M l) (k x : Nat) (hx : x ≤ M) : All M (l.set k x) := by
  intro j
  have := h j
  simp only [List.getD_eq_getElem?_getD, List.getElem?_set] at this ⊢
  split
  · split <;> simp [hx]
  · exact this
theorem All.mono {M M' : Nat} {l : List Nat} (h : All M l) (hm : M ≤ M') : All M' l := fun k => Nat.le_trans (h k) hm
theorem mulIn_all {M ai : Nat} {b o : List Nat} (i : Nat) (hM : 131072 ≤ M) (ha : ai ≤ 65535) (hb : All 65535 b) (ho : All M o) : ∀ j, All M (mulIn ai b i o j).1 ∧ (mulIn ai b i o j).2 ≤ M
  | 0 => ⟨ho, Nat.zero_le _⟩
  | j + 1 => by
    obtain ⟨h1, h2⟩ := mulIn_all i hM ha hb ho j
    have hp : ai * b.getD j 0 ≤ 65535 * 65535 := Nat.mul_le_mul ha (hb j)
    have hx := h1 (i + j)
    rw [mulIn]
    refine ⟨h1.set _ _ (by omega), ?_⟩
    show (_ + _ + _) / 65536 ≤ M
    omega
theorem mulOut_all {a b : List Nat} (ha : All 65535 a) (hb : All 65535 b) : ∀ i, All (131072 * 2 ^ i) (mulOut a b i)
  | 0 => fun k => by
    unfold mulOut
    simp only [List.getD_eq_getElem?_getD, List.getElem?_replicate]
    split <;> simp
  | i + 1 => by
    have h := mulOut_all ha hb i
    have hM : 131072 ≤ 131072 * 2 ^ i := Nat.le_mul_of_pos_right _ (Nat.pow_pos (by decide))
    obtain ⟨h1, h2⟩ := mulIn_all i hM (ha i) hb h b.length
    have hx := h1 (i + b.length)
    have hp : 131072 * 2 ^ (i + 1) = 131072 * 2 ^ i + 131072 * 2 ^ i := by rw [Nat.pow_succ]; omega
    rw [mulOut]
    exact (h1.mono (by omega)).set _ _ (by omega)
theorem natV_zero (n : Nat) : madeCells #[Value.int .i64 0] n = (natV (List.replicate n 0)).toArray := by
  apply Array.ext'
  have h := toList_madeCells_one (.int .i64 0) n
  rw [h]
  simp [natV]
theorem run_make_ints (n : Nat) (hn : n ≤ 4096) (w : World) :
    (Instr.makeSlice 36 (.int .i64 n) (.int .i64 n)).run Tryd.prog w = .ok (.slice (some ⟨w.heap.size, 0, none⟩) n n) (w.alloc (.cells (natV (List.replicate n 0)).toArray 3)) := by
  obtain ⟨i0, h1, h2, h3, h4⟩ := info_parts int_info
  have hr := run_make (P := Tryd.prog) w 36 3 i0 _ Tryd.underlying36 h1 h2 .i64 .i64 n n (by omega) (Int.le_refl _) (by rw [h4]; omega) (by omega)
  rw [hr]
  simp only [Int.toNat_natCast, h3, Nat.mul_one]
  rw [show (Value.int .i64 0).cells = #[Value.int .i64 0] from rfl, natV_zero]
end Go.Proofs.YtppckmfaidpliaaDoor
