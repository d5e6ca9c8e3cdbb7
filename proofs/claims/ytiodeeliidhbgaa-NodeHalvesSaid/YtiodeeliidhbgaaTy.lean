/- Plain data for the struct parameters of the laws, and how a reading opens them: no condition. -/
import Derived.Test.YtiodeeliidhbgaaArg
namespace Go.Proofs.Ytiodeeliidhbgaa
open Go.RowKit
set_option linter.unusedSimpArgs false
set_option linter.unusedVariables false

structure D_permafrostref09_Node where
  leaf : Bool
  keys : List (List UInt8)
  vals : List (List UInt8)


def R_permafrostref09_Node (B : Nat) (w : World) (cs : List Value) (y : D_permafrostref09_Node) : Prop :=
  ∃ v1 v2 : Value, cs = [.bool y.leaf, v1, v2] ∧ SlAt B w IsStr 1 [v1] y.keys ∧ SlAt B w IsStr 1 [v2] y.vals

theorem R_permafrostref09_Node_keep {B : Nat} {w w' : World} {cs : List Value} {y : D_permafrostref09_Node} (h : R_permafrostref09_Node B w cs y) (hb : Below B w w') : R_permafrostref09_Node B w' cs y := by
  obtain ⟨v1, v2, rfl, h0, h1⟩ := h
  exact ⟨v1, v2, rfl, h0.keep hb (fun _ _ h => h), h1.keep hb (fun _ _ h => h)⟩

theorem opens_permafrostref09_Node {H : Type} {enc : TypeId × Value → H} {w : World} : Opens enc Try.prog w 24 (R_permafrostref09_Node w.heap.size w) := by
  intro fuel cs x h
  obtain ⟨xs, n, _, _, hlen, hxs, hf⟩ := DataW.trod_struct Try.underlying24 h
  rw [show Try.prog.cellsOf 24 = 3 by kernel_rfl] at hlen
  match cs, hlen with
  | [c0, c1, c2], _ =>
    obtain ⟨z0, e0⟩ : ∃ z, xs[0]? = some z := ⟨xs[0]'(by rw [hxs]; decide), List.getElem?_eq_getElem _⟩
    have g0 : DataW.trod enc Try.prog w 0 (fun _ => true) true n 4 (([c0, c1, c2].drop 0).take (Try.prog.cellsOf 4)) = xs[0]? := hf 0 _ rfl
    rw [e0, show Try.prog.cellsOf 4 = 1 by kernel_rfl] at g0
    simp only [List.drop_zero, List.drop_succ_cons, List.take_succ_cons, List.take_zero] at g0
    obtain ⟨y0, r0⟩ := (opens_bool Try.underlying4) _ _ _ g0
    simp only [IsBool, List.cons.injEq, and_true] at r0
    obtain ⟨z1, e1⟩ : ∃ z, xs[1]? = some z := ⟨xs[1]'(by rw [hxs]; decide), List.getElem?_eq_getElem _⟩
    have g1 : DataW.trod enc Try.prog w 0 (fun _ => true) true n 22 (([c0, c1, c2].drop 1).take (Try.prog.cellsOf 22)) = xs[1]? := hf 1 _ rfl
    rw [e1, show Try.prog.cellsOf 22 = 1 by kernel_rfl] at g1
    simp only [List.drop_zero, List.drop_succ_cons, List.take_succ_cons, List.take_zero] at g1
    obtain ⟨y1, r1⟩ := (opens_slice (size := 1) Try.underlying22 (opens_str Try.underlying9) (by kernel_rfl) (by decide)) _ _ _ g1
    obtain ⟨z2, e2⟩ : ∃ z, xs[2]? = some z := ⟨xs[2]'(by rw [hxs]; decide), List.getElem?_eq_getElem _⟩
    have g2 : DataW.trod enc Try.prog w 0 (fun _ => true) true n 22 (([c0, c1, c2].drop 2).take (Try.prog.cellsOf 22)) = xs[2]? := hf 2 _ rfl
    rw [e2, show Try.prog.cellsOf 22 = 1 by kernel_rfl] at g2
    simp only [List.drop_zero, List.drop_succ_cons, List.take_succ_cons, List.take_zero] at g2
    obtain ⟨y2, r2⟩ := (opens_slice (size := 1) Try.underlying22 (opens_str Try.underlying9) (by kernel_rfl) (by decide)) _ _ _ g2
    subst r0
    exact ⟨⟨y0, y1, y2⟩, _, _, rfl, r1, r2⟩

structure D_permafrostlaw09_Case where
  n : D_permafrostref09_Node
  key : List UInt8
  val : List UInt8
  other : List UInt8


def R_permafrostlaw09_Case (B : Nat) (w : World) (cs : List Value) (y : D_permafrostlaw09_Case) : Prop :=
  ∃ v1 v2 : Value, cs = [.bool y.n.leaf, v1, v2, .string (bstr y.key), .string (bstr y.val), .string (bstr y.other)] ∧ SlAt B w IsStr 1 [v1] y.n.keys ∧ SlAt B w IsStr 1 [v2] y.n.vals ∧ y.key.length ≤ 9223372036854775807 ∧ y.val.length ≤ 9223372036854775807 ∧ y.other.length ≤ 9223372036854775807

theorem R_permafrostlaw09_Case_keep {B : Nat} {w w' : World} {cs : List Value} {y : D_permafrostlaw09_Case} (h : R_permafrostlaw09_Case B w cs y) (hb : Below B w w') : R_permafrostlaw09_Case B w' cs y := by
  obtain ⟨v1, v2, rfl, h0, h1, h2, h3, h4⟩ := h
  exact ⟨v1, v2, rfl, h0.keep hb (fun _ _ h => h), h1.keep hb (fun _ _ h => h), h2, h3, h4⟩

theorem opens_permafrostlaw09_Case {H : Type} {enc : TypeId × Value → H} {w : World} : Opens enc Try.prog w 58 (R_permafrostlaw09_Case w.heap.size w) := by
  intro fuel cs x h
  obtain ⟨xs, n, _, _, hlen, hxs, hf⟩ := DataW.trod_struct Try.underlying58 h
  rw [show Try.prog.cellsOf 58 = 6 by kernel_rfl] at hlen
  match cs, hlen with
  | [c0, c1, c2, c3, c4, c5], _ =>
    obtain ⟨z0, e0⟩ : ∃ z, xs[0]? = some z := ⟨xs[0]'(by rw [hxs]; decide), List.getElem?_eq_getElem _⟩
    have g0 : DataW.trod enc Try.prog w 0 (fun _ => true) true n 24 (([c0, c1, c2, c3, c4, c5].drop 0).take (Try.prog.cellsOf 24)) = xs[0]? := hf 0 _ rfl
    rw [e0, show Try.prog.cellsOf 24 = 3 by kernel_rfl] at g0
    simp only [List.drop_zero, List.drop_succ_cons, List.take_succ_cons, List.take_zero] at g0
    obtain ⟨y0, r0⟩ := opens_permafrostref09_Node _ _ _ g0
    obtain ⟨u0_0, u0_1, q0, w0_0, w0_1⟩ := r0
    simp only [List.cons.injEq, and_true] at q0
    obtain ⟨z1, e1⟩ : ∃ z, xs[1]? = some z := ⟨xs[1]'(by rw [hxs]; decide), List.getElem?_eq_getElem _⟩
    have g1 : DataW.trod enc Try.prog w 0 (fun _ => true) true n 9 (([c0, c1, c2, c3, c4, c5].drop 3).take (Try.prog.cellsOf 9)) = xs[1]? := hf 1 _ rfl
    rw [e1, show Try.prog.cellsOf 9 = 1 by kernel_rfl] at g1
    simp only [List.drop_zero, List.drop_succ_cons, List.take_succ_cons, List.take_zero] at g1
    obtain ⟨y1, r1⟩ := (opens_str Try.underlying9) _ _ _ g1
    obtain ⟨q1, w1⟩ := r1
    simp only [List.cons.injEq, and_true] at q1
    obtain ⟨z2, e2⟩ : ∃ z, xs[2]? = some z := ⟨xs[2]'(by rw [hxs]; decide), List.getElem?_eq_getElem _⟩
    have g2 : DataW.trod enc Try.prog w 0 (fun _ => true) true n 9 (([c0, c1, c2, c3, c4, c5].drop 4).take (Try.prog.cellsOf 9)) = xs[2]? := hf 2 _ rfl
    rw [e2, show Try.prog.cellsOf 9 = 1 by kernel_rfl] at g2
    simp only [List.drop_zero, List.drop_succ_cons, List.take_succ_cons, List.take_zero] at g2
    obtain ⟨y2, r2⟩ := (opens_str Try.underlying9) _ _ _ g2
    obtain ⟨q2, w2⟩ := r2
    simp only [List.cons.injEq, and_true] at q2
    obtain ⟨z3, e3⟩ : ∃ z, xs[3]? = some z := ⟨xs[3]'(by rw [hxs]; decide), List.getElem?_eq_getElem _⟩
    have g3 : DataW.trod enc Try.prog w 0 (fun _ => true) true n 9 (([c0, c1, c2, c3, c4, c5].drop 5).take (Try.prog.cellsOf 9)) = xs[3]? := hf 3 _ rfl
    rw [e3, show Try.prog.cellsOf 9 = 1 by kernel_rfl] at g3
    simp only [List.drop_zero, List.drop_succ_cons, List.take_succ_cons, List.take_zero] at g3
    obtain ⟨y3, r3⟩ := (opens_str Try.underlying9) _ _ _ g3
    obtain ⟨q3, w3⟩ := r3
    simp only [List.cons.injEq, and_true] at q3
    obtain ⟨rfl, rfl, rfl⟩ := q0
    subst q1
    subst q2
    subst q3
    exact ⟨⟨y0, y1, y2, y3⟩, _, _, rfl, w0_0, w0_1, w1, w2, w3⟩

end Go.Proofs.Ytiodeeliidhbgaa
