/- Plain data for the struct parameters of the laws, and how a reading opens them: no condition. -/
import Derived.Test.YtcamcjcmhjldpaaDoorArg
namespace Go.Proofs.YtcamcjcmhjldpaaDoor
open Go.RowKit
set_option maxRecDepth 100000
set_option linter.unusedSimpArgs false
set_option linter.unusedVariables false

structure D_permafrostlaw06_Two where
  txg : Int
  a : List UInt8
  b : List UInt8
  keep : List Bool


def R_permafrostlaw06_Two (B : Nat) (w : World) (cs : List Value) (y : D_permafrostlaw06_Two) : Prop :=
  ∃ v3 : Value, cs = [.int .i64 y.txg, .string (bstr y.a), .string (bstr y.b), v3] ∧ (Lit.int .i64 y.txg).wf = true ∧ y.a.length ≤ 9223372036854775807 ∧ y.b.length ≤ 9223372036854775807 ∧ SlAt B w IsBool 1 [v3] y.keep

theorem R_permafrostlaw06_Two_keep {B : Nat} {w w' : World} {cs : List Value} {y : D_permafrostlaw06_Two} (h : R_permafrostlaw06_Two B w cs y) (hb : Below B w w') : R_permafrostlaw06_Two B w' cs y := by
  obtain ⟨v3, rfl, h0, h1, h2, h3⟩ := h
  exact ⟨v3, rfl, h0, h1, h2, h3.keep hb (fun _ _ h => h)⟩

theorem opens_permafrostlaw06_Two {H : Type} {enc : TypeId × Value → H} {w : World} : Opens enc Tryd.prog w 40 (R_permafrostlaw06_Two w.heap.size w) := by
  intro fuel cs x h
  obtain ⟨xs, n, _, _, hlen, hxs, hf⟩ := DataW.trod_struct Tryd.underlying40 h
  rw [show Tryd.prog.cellsOf 40 = 4 by kernel_rfl] at hlen
  match cs, hlen with
  | [c0, c1, c2, c3], _ =>
    obtain ⟨z0, e0⟩ : ∃ z, xs[0]? = some z := ⟨xs[0]'(by rw [hxs]; decide), List.getElem?_eq_getElem _⟩
    have g0 : DataW.trod enc Tryd.prog w 0 (fun _ => true) true n 3 (([c0, c1, c2, c3].drop 0).take (Tryd.prog.cellsOf 3)) = xs[0]? := hf 0 _ rfl
    rw [e0, show Tryd.prog.cellsOf 3 = 1 by kernel_rfl] at g0
    simp only [List.drop_zero, List.drop_succ_cons, List.take_succ_cons, List.take_zero] at g0
    obtain ⟨y0, r0⟩ := (opens_int Tryd.underlying3) _ _ _ g0
    obtain ⟨q0, w0⟩ := r0
    simp only [List.cons.injEq, and_true] at q0
    obtain ⟨z1, e1⟩ : ∃ z, xs[1]? = some z := ⟨xs[1]'(by rw [hxs]; decide), List.getElem?_eq_getElem _⟩
    have g1 : DataW.trod enc Tryd.prog w 0 (fun _ => true) true n 9 (([c0, c1, c2, c3].drop 1).take (Tryd.prog.cellsOf 9)) = xs[1]? := hf 1 _ rfl
    rw [e1, show Tryd.prog.cellsOf 9 = 1 by kernel_rfl] at g1
    simp only [List.drop_zero, List.drop_succ_cons, List.take_succ_cons, List.take_zero] at g1
    obtain ⟨y1, r1⟩ := (opens_str Tryd.underlying9) _ _ _ g1
    obtain ⟨q1, w1⟩ := r1
    simp only [List.cons.injEq, and_true] at q1
    obtain ⟨z2, e2⟩ : ∃ z, xs[2]? = some z := ⟨xs[2]'(by rw [hxs]; decide), List.getElem?_eq_getElem _⟩
    have g2 : DataW.trod enc Tryd.prog w 0 (fun _ => true) true n 9 (([c0, c1, c2, c3].drop 2).take (Tryd.prog.cellsOf 9)) = xs[2]? := hf 2 _ rfl
    rw [e2, show Tryd.prog.cellsOf 9 = 1 by kernel_rfl] at g2
    simp only [List.drop_zero, List.drop_succ_cons, List.take_succ_cons, List.take_zero] at g2
    obtain ⟨y2, r2⟩ := (opens_str Tryd.underlying9) _ _ _ g2
    obtain ⟨q2, w2⟩ := r2
    simp only [List.cons.injEq, and_true] at q2
    obtain ⟨z3, e3⟩ : ∃ z, xs[3]? = some z := ⟨xs[3]'(by rw [hxs]; decide), List.getElem?_eq_getElem _⟩
    have g3 : DataW.trod enc Tryd.prog w 0 (fun _ => true) true n 38 (([c0, c1, c2, c3].drop 3).take (Tryd.prog.cellsOf 38)) = xs[3]? := hf 3 _ rfl
    rw [e3, show Tryd.prog.cellsOf 38 = 1 by kernel_rfl] at g3
    simp only [List.drop_zero, List.drop_succ_cons, List.take_succ_cons, List.take_zero] at g3
    obtain ⟨y3, r3⟩ := (opens_slice (size := 1) Tryd.underlying38 (opens_bool Tryd.underlying4) (by kernel_rfl) (by decide)) _ _ _ g3
    subst q0
    subst q1
    subst q2
    exact ⟨⟨y0, y1, y2, y3⟩, _, rfl, w0, w1, w2, r3⟩

structure D_permafrostref06_Uber where
  txg : Int
  load : List UInt8


def R_permafrostref06_Uber (B : Nat) (w : World) (cs : List Value) (y : D_permafrostref06_Uber) : Prop :=
  cs = [.int .i64 y.txg, .string (bstr y.load)] ∧ (Lit.int .i64 y.txg).wf = true ∧ y.load.length ≤ 9223372036854775807

theorem R_permafrostref06_Uber_keep {B : Nat} {w w' : World} {cs : List Value} {y : D_permafrostref06_Uber} (h : R_permafrostref06_Uber B w cs y) (hb : Below B w w') : R_permafrostref06_Uber B w' cs y := by
  obtain ⟨rfl, h0, h1⟩ := h
  exact ⟨rfl, h0, h1⟩

theorem opens_permafrostref06_Uber {H : Type} {enc : TypeId × Value → H} {w : World} : Opens enc Tryd.prog w 23 (R_permafrostref06_Uber w.heap.size w) := by
  intro fuel cs x h
  obtain ⟨xs, n, _, _, hlen, hxs, hf⟩ := DataW.trod_struct Tryd.underlying23 h
  rw [show Tryd.prog.cellsOf 23 = 2 by kernel_rfl] at hlen
  match cs, hlen with
  | [c0, c1], _ =>
    obtain ⟨z0, e0⟩ : ∃ z, xs[0]? = some z := ⟨xs[0]'(by rw [hxs]; decide), List.getElem?_eq_getElem _⟩
    have g0 : DataW.trod enc Tryd.prog w 0 (fun _ => true) true n 3 (([c0, c1].drop 0).take (Tryd.prog.cellsOf 3)) = xs[0]? := hf 0 _ rfl
    rw [e0, show Tryd.prog.cellsOf 3 = 1 by kernel_rfl] at g0
    simp only [List.drop_zero, List.drop_succ_cons, List.take_succ_cons, List.take_zero] at g0
    obtain ⟨y0, r0⟩ := (opens_int Tryd.underlying3) _ _ _ g0
    obtain ⟨q0, w0⟩ := r0
    simp only [List.cons.injEq, and_true] at q0
    obtain ⟨z1, e1⟩ : ∃ z, xs[1]? = some z := ⟨xs[1]'(by rw [hxs]; decide), List.getElem?_eq_getElem _⟩
    have g1 : DataW.trod enc Tryd.prog w 0 (fun _ => true) true n 9 (([c0, c1].drop 1).take (Tryd.prog.cellsOf 9)) = xs[1]? := hf 1 _ rfl
    rw [e1, show Tryd.prog.cellsOf 9 = 1 by kernel_rfl] at g1
    simp only [List.drop_zero, List.drop_succ_cons, List.take_succ_cons, List.take_zero] at g1
    obtain ⟨y1, r1⟩ := (opens_str Tryd.underlying9) _ _ _ g1
    obtain ⟨q1, w1⟩ := r1
    simp only [List.cons.injEq, and_true] at q1
    subst q0
    subst q1
    exact ⟨⟨y0, y1⟩, rfl, w0, w1⟩

end Go.Proofs.YtcamcjcmhjldpaaDoor
