/- Plain data for the struct parameters of the laws, and how a reading opens them: no condition. -/
import Derived.Test.YtefobchpcdniiaaArg
namespace Go.Proofs.Ytefobchpcdniiaa
open Go.RowKit
set_option linter.unusedSimpArgs false
set_option linter.unusedVariables false

structure D_permafrostlaw12_Op where
  do_ : Int
  key : List UInt8
  now : Int
  n : Int


def R_permafrostlaw12_Op (B : Nat) (w : World) (cs : List Value) (y : D_permafrostlaw12_Op) : Prop :=
  cs = [.int .i64 y.do_, .string (bstr y.key), .int .i64 y.now, .int .i64 y.n] ∧ (Lit.int .i64 y.do_).wf = true ∧ y.key.length ≤ 9223372036854775807 ∧ (Lit.int .i64 y.now).wf = true ∧ (Lit.int .i64 y.n).wf = true

theorem R_permafrostlaw12_Op_keep {B : Nat} {w w' : World} {cs : List Value} {y : D_permafrostlaw12_Op} (h : R_permafrostlaw12_Op B w cs y) (hb : Below B w w') : R_permafrostlaw12_Op B w' cs y := by
  obtain ⟨rfl, h0, h1, h2, h3⟩ := h
  exact ⟨rfl, h0, h1, h2, h3⟩

theorem opens_permafrostlaw12_Op {H : Type} {enc : TypeId × Value → H} {w : World} : Opens enc Try.prog w 31 (R_permafrostlaw12_Op w.heap.size w) := by
  intro fuel cs x h
  obtain ⟨xs, n, _, _, hlen, hxs, hf⟩ := DataW.trod_struct Try.underlying31 h
  rw [show Try.prog.cellsOf 31 = 4 by kernel_rfl] at hlen
  match cs, hlen with
  | [c0, c1, c2, c3], _ =>
    obtain ⟨z0, e0⟩ : ∃ z, xs[0]? = some z := ⟨xs[0]'(by rw [hxs]; decide), List.getElem?_eq_getElem _⟩
    have g0 : DataW.trod enc Try.prog w 0 (fun _ => true) true n 3 (([c0, c1, c2, c3].drop 0).take (Try.prog.cellsOf 3)) = xs[0]? := hf 0 _ rfl
    rw [e0, show Try.prog.cellsOf 3 = 1 by kernel_rfl] at g0
    simp only [List.drop_zero, List.drop_succ_cons, List.take_succ_cons, List.take_zero] at g0
    obtain ⟨y0, r0⟩ := (opens_int Try.underlying3) _ _ _ g0
    obtain ⟨q0, w0⟩ := r0
    simp only [List.cons.injEq, and_true] at q0
    obtain ⟨z1, e1⟩ : ∃ z, xs[1]? = some z := ⟨xs[1]'(by rw [hxs]; decide), List.getElem?_eq_getElem _⟩
    have g1 : DataW.trod enc Try.prog w 0 (fun _ => true) true n 9 (([c0, c1, c2, c3].drop 1).take (Try.prog.cellsOf 9)) = xs[1]? := hf 1 _ rfl
    rw [e1, show Try.prog.cellsOf 9 = 1 by kernel_rfl] at g1
    simp only [List.drop_zero, List.drop_succ_cons, List.take_succ_cons, List.take_zero] at g1
    obtain ⟨y1, r1⟩ := (opens_str Try.underlying9) _ _ _ g1
    obtain ⟨q1, w1⟩ := r1
    simp only [List.cons.injEq, and_true] at q1
    obtain ⟨z2, e2⟩ : ∃ z, xs[2]? = some z := ⟨xs[2]'(by rw [hxs]; decide), List.getElem?_eq_getElem _⟩
    have g2 : DataW.trod enc Try.prog w 0 (fun _ => true) true n 3 (([c0, c1, c2, c3].drop 2).take (Try.prog.cellsOf 3)) = xs[2]? := hf 2 _ rfl
    rw [e2, show Try.prog.cellsOf 3 = 1 by kernel_rfl] at g2
    simp only [List.drop_zero, List.drop_succ_cons, List.take_succ_cons, List.take_zero] at g2
    obtain ⟨y2, r2⟩ := (opens_int Try.underlying3) _ _ _ g2
    obtain ⟨q2, w2⟩ := r2
    simp only [List.cons.injEq, and_true] at q2
    obtain ⟨z3, e3⟩ : ∃ z, xs[3]? = some z := ⟨xs[3]'(by rw [hxs]; decide), List.getElem?_eq_getElem _⟩
    have g3 : DataW.trod enc Try.prog w 0 (fun _ => true) true n 3 (([c0, c1, c2, c3].drop 3).take (Try.prog.cellsOf 3)) = xs[3]? := hf 3 _ rfl
    rw [e3, show Try.prog.cellsOf 3 = 1 by kernel_rfl] at g3
    simp only [List.drop_zero, List.drop_succ_cons, List.take_succ_cons, List.take_zero] at g3
    obtain ⟨y3, r3⟩ := (opens_int Try.underlying3) _ _ _ g3
    obtain ⟨q3, w3⟩ := r3
    simp only [List.cons.injEq, and_true] at q3
    subst q0
    subst q1
    subst q2
    subst q3
    exact ⟨⟨y0, y1, y2, y3⟩, rfl, w0, w1, w2, w3⟩

structure D_permafrostlaw12_Gone where
  script : List D_permafrostlaw12_Op
  key : List UInt8
  other : List UInt8
  now : Int


def R_permafrostlaw12_Gone (B : Nat) (w : World) (cs : List Value) (y : D_permafrostlaw12_Gone) : Prop :=
  ∃ v0 : Value, cs = [v0, .string (bstr y.key), .string (bstr y.other), .int .i64 y.now] ∧ SlAt B w (R_permafrostlaw12_Op B w) 4 [v0] y.script ∧ y.key.length ≤ 9223372036854775807 ∧ y.other.length ≤ 9223372036854775807 ∧ (Lit.int .i64 y.now).wf = true

theorem R_permafrostlaw12_Gone_keep {B : Nat} {w w' : World} {cs : List Value} {y : D_permafrostlaw12_Gone} (h : R_permafrostlaw12_Gone B w cs y) (hb : Below B w w') : R_permafrostlaw12_Gone B w' cs y := by
  obtain ⟨v0, rfl, h0, h1, h2, h3⟩ := h
  exact ⟨v0, rfl, h0.keep hb (fun _ _ h => R_permafrostlaw12_Op_keep h hb), h1, h2, h3⟩

theorem opens_permafrostlaw12_Gone {H : Type} {enc : TypeId × Value → H} {w : World} : Opens enc Try.prog w 45 (R_permafrostlaw12_Gone w.heap.size w) := by
  intro fuel cs x h
  obtain ⟨xs, n, _, _, hlen, hxs, hf⟩ := DataW.trod_struct Try.underlying45 h
  rw [show Try.prog.cellsOf 45 = 4 by kernel_rfl] at hlen
  match cs, hlen with
  | [c0, c1, c2, c3], _ =>
    obtain ⟨z0, e0⟩ : ∃ z, xs[0]? = some z := ⟨xs[0]'(by rw [hxs]; decide), List.getElem?_eq_getElem _⟩
    have g0 : DataW.trod enc Try.prog w 0 (fun _ => true) true n 22 (([c0, c1, c2, c3].drop 0).take (Try.prog.cellsOf 22)) = xs[0]? := hf 0 _ rfl
    rw [e0, show Try.prog.cellsOf 22 = 1 by kernel_rfl] at g0
    simp only [List.drop_zero, List.drop_succ_cons, List.take_succ_cons, List.take_zero] at g0
    obtain ⟨y0, r0⟩ := (opens_slice (size := 4) Try.underlying22 opens_permafrostlaw12_Op (by kernel_rfl) (by decide)) _ _ _ g0
    obtain ⟨z1, e1⟩ : ∃ z, xs[1]? = some z := ⟨xs[1]'(by rw [hxs]; decide), List.getElem?_eq_getElem _⟩
    have g1 : DataW.trod enc Try.prog w 0 (fun _ => true) true n 9 (([c0, c1, c2, c3].drop 1).take (Try.prog.cellsOf 9)) = xs[1]? := hf 1 _ rfl
    rw [e1, show Try.prog.cellsOf 9 = 1 by kernel_rfl] at g1
    simp only [List.drop_zero, List.drop_succ_cons, List.take_succ_cons, List.take_zero] at g1
    obtain ⟨y1, r1⟩ := (opens_str Try.underlying9) _ _ _ g1
    obtain ⟨q1, w1⟩ := r1
    simp only [List.cons.injEq, and_true] at q1
    obtain ⟨z2, e2⟩ : ∃ z, xs[2]? = some z := ⟨xs[2]'(by rw [hxs]; decide), List.getElem?_eq_getElem _⟩
    have g2 : DataW.trod enc Try.prog w 0 (fun _ => true) true n 9 (([c0, c1, c2, c3].drop 2).take (Try.prog.cellsOf 9)) = xs[2]? := hf 2 _ rfl
    rw [e2, show Try.prog.cellsOf 9 = 1 by kernel_rfl] at g2
    simp only [List.drop_zero, List.drop_succ_cons, List.take_succ_cons, List.take_zero] at g2
    obtain ⟨y2, r2⟩ := (opens_str Try.underlying9) _ _ _ g2
    obtain ⟨q2, w2⟩ := r2
    simp only [List.cons.injEq, and_true] at q2
    obtain ⟨z3, e3⟩ : ∃ z, xs[3]? = some z := ⟨xs[3]'(by rw [hxs]; decide), List.getElem?_eq_getElem _⟩
    have g3 : DataW.trod enc Try.prog w 0 (fun _ => true) true n 3 (([c0, c1, c2, c3].drop 3).take (Try.prog.cellsOf 3)) = xs[3]? := hf 3 _ rfl
    rw [e3, show Try.prog.cellsOf 3 = 1 by kernel_rfl] at g3
    simp only [List.drop_zero, List.drop_succ_cons, List.take_succ_cons, List.take_zero] at g3
    obtain ⟨y3, r3⟩ := (opens_int Try.underlying3) _ _ _ g3
    obtain ⟨q3, w3⟩ := r3
    simp only [List.cons.injEq, and_true] at q3
    subst q1
    subst q2
    subst q3
    exact ⟨⟨y0, y1, y2, y3⟩, _, rfl, r0, w1, w2, w3⟩

end Go.Proofs.Ytefobchpcdniiaa
