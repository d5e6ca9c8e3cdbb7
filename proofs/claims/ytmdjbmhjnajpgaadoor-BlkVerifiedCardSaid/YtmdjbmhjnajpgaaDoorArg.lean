/- What arguments of a law read as: relations between cells and plain data, and how a reading opens them: no condition. -/
import Derived.Test.YtmdjbmhjnajpgaaDoorMem
import Derived.ProofKit
import Derived.OpenShut
import Derived.ShutString
import Derived.ChangeOld
import Derived.Below
import Derived.SizedLaws
import Derived.Deep.Slices
import Derived.Lib.SmallJoins
namespace Go.Proofs.YtmdjbmhjnajpgaaDoor
open Go.RowKit
set_option linter.unusedSimpArgs false
set_option linter.unnecessarySimpa false
set_option linter.unusedVariables false

/-! What arguments read as: relations between the cells of a value and plain data. -/
def IsInt (k : IntKind) (cs : List Value) (y : Int) : Prop := cs = [.int k y] ∧ (Lit.int k y).wf = true
def IsBool (cs : List Value) (y : Bool) : Prop := cs = [.bool y]
def IsStr (cs : List Value) (y : List UInt8) : Prop := cs = [.string (bstr y)] ∧ y.length ≤ 9223372036854775807
/-- a slice value over a list; each element's cells are related to it by R -/
def SlAt {T : Type} (B : Nat) (w : World) (R : List Value → T → Prop) (size : Nat) (cs : List Value) (l : List T) : Prop :=
  ∃ A n c, cs = [.slice A n c] ∧ n = l.length ∧ n ≤ c ∧ c ≤ 9223372036854775807 ∧
    (0 < n → ∃ ad : Addr, A = some ad ∧ ad.block < B ∧ ∀ i x, l[i]? = some x → ∃ es, es.length = size ∧ R es x ∧ ∀ j u, es[j]? = some u → w.cell? (ad.add (i * size + j)) = some u)

theorem SlAt.keep {T : Type} {B : Nat} {w w' : World} {R R' : List Value → T → Prop} {size : Nat} {cs : List Value} {l : List T} (h : SlAt B w R size cs l) (hb : Below B w w') (hR : ∀ cs x, R cs x → R' cs x) :
    SlAt B w' R' size cs l := by
  obtain ⟨A, n, c, rfl, hn, hc, hm, hx⟩ := h
  refine ⟨A, n, c, rfl, hn, hc, hm, fun h0 => ?_⟩
  obtain ⟨ad, rfl, had, hcell⟩ := hx h0
  refine ⟨ad, rfl, had, fun i x hi => ?_⟩
  obtain ⟨es, h1, h2, h3⟩ := hcell i x hi
  refine ⟨es, h1, hR _ _ h2, fun j u hj => ?_⟩
  rw [hb.cell (by unfold Addr.add; split <;> exact had)]
  exact h3 j u hj

theorem list_of_index {T : Type} {p : Nat → T → Prop} (n : Nat) (h : ∀ i, i < n → ∃ y, p i y) : ∃ l : List T, l.length = n ∧ ∀ i x, l[i]? = some x → p i x := by
  induction n with
  | zero => exact ⟨[], rfl, fun i x h => by simp at h⟩
  | succ len ih =>
    obtain ⟨l, hll, hlx⟩ := ih (fun i hi => h i (by omega))
    obtain ⟨y, hy⟩ := h len (by omega)
    refine ⟨l ++ [y], by simp [hll], fun i x hi => ?_⟩
    rcases Nat.lt_or_ge i len with h | h
    · rw [List.getElem?_append_left (by omega)] at hi
      exact hlx i x hi
    · rcases Nat.lt_or_ge i (len + 1) with h' | h'
      · obtain rfl : i = len := by omega
        rw [List.getElem?_append_right (by omega), hll, Nat.sub_self] at hi
        simp at hi
        subst hi
        exact hy
      · rw [List.getElem?_eq_none (by simp; omega)] at hi; cases hi

section
variable {H : Type} {enc : TypeId × Value → H} {P : Program} {w : World} {t e : TypeId}
def Opens {T : Type} (enc : TypeId × Value → H) (P : Program) (w : World) (t : TypeId) (R : List Value → T → Prop) : Prop :=
  ∀ fuel cs x, DataW.trod enc P w 0 (fun _ => true) true fuel t cs = some x → ∃ y, R cs y
theorem opens_int {k : IntKind} (ht : P.underlying t = some (.int k)) : Opens enc P w t (IsInt k) := fun fuel cs x h => by
  obtain ⟨n, rfl, _, hw⟩ := DataW.trod_int ht h
  exact ⟨n, rfl, hw⟩
theorem opens_bool (ht : P.underlying t = some .bool) : Opens enc P w t IsBool := fun fuel cs x h => by
  obtain ⟨n, rfl, _⟩ := DataW.trod_bool ht h
  exact ⟨n, rfl⟩
theorem opens_str (ht : P.underlying t = some .string) : Opens enc P w t IsStr := fun fuel cs x h => by
  obtain ⟨s, rfl, _, hs⟩ := DataW.trod_string ht h
  obtain ⟨l, rfl⟩ := bstr_toList s
  refine ⟨l, rfl, ?_⟩
  have : (bstr l).size = l.length := by simp [bstr, ByteArray.size]
  rw [this] at hs
  simpa [maxLen] using hs
theorem arg_cell_lt {a : Addr} {u : Value} (h : w.cell? a = some u) : a.block < w.heap.size := by
  rcases Nat.lt_or_ge a.block w.heap.size with h1 | h1
  · exact h1
  · simp [World.cell?, Array.getElem?_eq_none h1] at h
theorem opens_slice {T : Type} {R : List Value → T → Prop} {size : Nat} (ht : P.underlying t = some (.slice e)) (hR : Opens enc P w e R) (hc : P.cellsOf e = size) (hpos : 0 < size) :
    Opens enc P w t (SlAt w.heap.size w R size) := fun fuel cs x h => by
  rcases Go.Deep.open_slice ht h with ⟨rfl, _⟩ | ⟨a, len, cap, m, n, D, Pl, rfl, _, hl, hm, hmm, _, hx⟩
  · exact ⟨[], none, 0, 0, rfl, rfl, Nat.le_refl _, by omega, fun h => absurd h (by omega)⟩
  · rw [if_pos rfl] at hmm
    rw [hc] at hx
    have hmx : cap ≤ 9223372036854775807 := by simpa [maxLen] using hm
    have key : ∀ i, i < len → ∃ y, ∃ es, es.length = size ∧ R es y ∧ ∀ j u, es[j]? = some u → w.cell? (a.add (i * size + j)) = some u := fun i hi => by
      obtain ⟨es, h1, h2⟩ := hx i (by omega)
      obtain ⟨y, hy⟩ := hR _ _ _ h2
      obtain ⟨_, hlen, hcell⟩ := World.cells?_some h1
      refine ⟨y, es, hlen, hy, fun j u hj => ?_⟩
      have hjl : j < size := by
        rcases Nat.lt_or_ge j es.length with h | h
        · omega
        · rw [List.getElem?_eq_none h] at hj; cases hj
      have := hcell j hjl
      rw [Go.Deep.add_add] at this
      rw [this, hj]
    have kex := list_of_index (p := fun i y => ∃ es, es.length = size ∧ R es y ∧ ∀ j u, es[j]? = some u → w.cell? (a.add (i * size + j)) = some u) len key
    obtain ⟨l, hll, hlx⟩ := kex
    refine ⟨l, some a, len, cap, rfl, hll.symm, hl, hmx, fun h0 => ⟨a, rfl, ?_, hlx⟩⟩
    obtain ⟨y, es, h1, h2, h3⟩ := key 0 h0
    obtain ⟨u, hu⟩ : ∃ u, es[0]? = some u := ⟨es[0]'(by omega), List.getElem?_eq_getElem _⟩
    have h4 := h3 0 u hu
    have h5 := arg_cell_lt h4
    have h6 : (a.add (0 * size + 0)).block = a.block := by unfold Addr.add; split <;> rfl
    rw [h6] at h5
    exact h5
end

theorem Tryd.laidOut_ : laidOutB Tryd.prog = true := by kernel_rfl
theorem Tryd.own_ : ownKnob Tryd.prog.godebug = none := by kernel_rfl

end Go.Proofs.YtmdjbmhjnajpgaaDoor
