/- Plain data for the struct parameters of the laws, and how a reading opens them: no condition. -/
import Derived.Test.YtmlakbdigbpmaaaArg
namespace Go.Proofs.Ytmlakbdigbpmaaa
open Go.RowKit
set_option linter.unusedSimpArgs false
set_option linter.unusedVariables false

structure D_api_Loc where
  dev : Int
  at_ : Int


def R_api_Loc (B : Nat) (w : World) (cs : List Value) (y : D_api_Loc) : Prop :=
  cs = [.int .i64 y.dev, .int .i64 y.at_] ∧ (Lit.int .i64 y.dev).wf = true ∧ (Lit.int .i64 y.at_).wf = true

theorem R_api_Loc_keep {B : Nat} {w w' : World} {cs : List Value} {y : D_api_Loc} (h : R_api_Loc B w cs y) (hb : Below B w w') : R_api_Loc B w' cs y := by
  obtain ⟨rfl, h0, h1⟩ := h
  exact ⟨rfl, h0, h1⟩

theorem opens_api_Loc {H : Type} {enc : TypeId × Value → H} {w : World} : Opens enc Try.prog w 29 (R_api_Loc w.heap.size w) := by
  intro fuel cs x h
  obtain ⟨xs, n, _, _, hlen, hxs, hf⟩ := DataW.trod_struct Try.underlying29 h
  rw [show Try.prog.cellsOf 29 = 2 by kernel_rfl] at hlen
  match cs, hlen with
  | [c0, c1], _ =>
    obtain ⟨z0, e0⟩ : ∃ z, xs[0]? = some z := ⟨xs[0]'(by rw [hxs]; decide), List.getElem?_eq_getElem _⟩
    have g0 : DataW.trod enc Try.prog w 0 (fun _ => true) true n 3 (([c0, c1].drop 0).take (Try.prog.cellsOf 3)) = xs[0]? := hf 0 _ rfl
    rw [e0, show Try.prog.cellsOf 3 = 1 by kernel_rfl] at g0
    simp only [List.drop_zero, List.drop_succ_cons, List.take_succ_cons, List.take_zero] at g0
    obtain ⟨y0, r0⟩ := (opens_int Try.underlying3) _ _ _ g0
    obtain ⟨q0, w0⟩ := r0
    simp only [List.cons.injEq, and_true] at q0
    obtain ⟨z1, e1⟩ : ∃ z, xs[1]? = some z := ⟨xs[1]'(by rw [hxs]; decide), List.getElem?_eq_getElem _⟩
    have g1 : DataW.trod enc Try.prog w 0 (fun _ => true) true n 3 (([c0, c1].drop 1).take (Try.prog.cellsOf 3)) = xs[1]? := hf 1 _ rfl
    rw [e1, show Try.prog.cellsOf 3 = 1 by kernel_rfl] at g1
    simp only [List.drop_zero, List.drop_succ_cons, List.take_succ_cons, List.take_zero] at g1
    obtain ⟨y1, r1⟩ := (opens_int Try.underlying3) _ _ _ g1
    obtain ⟨q1, w1⟩ := r1
    simp only [List.cons.injEq, and_true] at q1
    subst q0
    subst q1
    exact ⟨⟨y0, y1⟩, rfl, w0, w1⟩

structure D_permafrostlaw03_Op where
  do_ : Int
  l : D_api_Loc
  s : List UInt8
  keep : List Bool


def R_permafrostlaw03_Op (B : Nat) (w : World) (cs : List Value) (y : D_permafrostlaw03_Op) : Prop :=
  ∃ v4 : Value, cs = [.int .i64 y.do_, .int .i64 y.l.dev, .int .i64 y.l.at_, .string (bstr y.s), v4] ∧ (Lit.int .i64 y.do_).wf = true ∧ (Lit.int .i64 y.l.dev).wf = true ∧ (Lit.int .i64 y.l.at_).wf = true ∧ y.s.length ≤ 9223372036854775807 ∧ SlAt B w IsBool 1 [v4] y.keep

theorem R_permafrostlaw03_Op_keep {B : Nat} {w w' : World} {cs : List Value} {y : D_permafrostlaw03_Op} (h : R_permafrostlaw03_Op B w cs y) (hb : Below B w w') : R_permafrostlaw03_Op B w' cs y := by
  obtain ⟨v4, rfl, h0, h1, h2, h3, h4⟩ := h
  exact ⟨v4, rfl, h0, h1, h2, h3, h4.keep hb (fun _ _ h => h)⟩

theorem opens_permafrostlaw03_Op {H : Type} {enc : TypeId × Value → H} {w : World} : Opens enc Try.prog w 32 (R_permafrostlaw03_Op w.heap.size w) := by
  intro fuel cs x h
  obtain ⟨xs, n, _, _, hlen, hxs, hf⟩ := DataW.trod_struct Try.underlying32 h
  rw [show Try.prog.cellsOf 32 = 5 by kernel_rfl] at hlen
  match cs, hlen with
  | [c0, c1, c2, c3, c4], _ =>
    obtain ⟨z0, e0⟩ : ∃ z, xs[0]? = some z := ⟨xs[0]'(by rw [hxs]; decide), List.getElem?_eq_getElem _⟩
    have g0 : DataW.trod enc Try.prog w 0 (fun _ => true) true n 3 (([c0, c1, c2, c3, c4].drop 0).take (Try.prog.cellsOf 3)) = xs[0]? := hf 0 _ rfl
    rw [e0, show Try.prog.cellsOf 3 = 1 by kernel_rfl] at g0
    simp only [List.drop_zero, List.drop_succ_cons, List.take_succ_cons, List.take_zero] at g0
    obtain ⟨y0, r0⟩ := (opens_int Try.underlying3) _ _ _ g0
    obtain ⟨q0, w0⟩ := r0
    simp only [List.cons.injEq, and_true] at q0
    obtain ⟨z1, e1⟩ : ∃ z, xs[1]? = some z := ⟨xs[1]'(by rw [hxs]; decide), List.getElem?_eq_getElem _⟩
    have g1 : DataW.trod enc Try.prog w 0 (fun _ => true) true n 29 (([c0, c1, c2, c3, c4].drop 1).take (Try.prog.cellsOf 29)) = xs[1]? := hf 1 _ rfl
    rw [e1, show Try.prog.cellsOf 29 = 2 by kernel_rfl] at g1
    simp only [List.drop_zero, List.drop_succ_cons, List.take_succ_cons, List.take_zero] at g1
    obtain ⟨y1, r1⟩ := opens_api_Loc _ _ _ g1
    obtain ⟨q1, w1_0, w1_1⟩ := r1
    simp only [List.cons.injEq, and_true] at q1
    obtain ⟨z2, e2⟩ : ∃ z, xs[2]? = some z := ⟨xs[2]'(by rw [hxs]; decide), List.getElem?_eq_getElem _⟩
    have g2 : DataW.trod enc Try.prog w 0 (fun _ => true) true n 9 (([c0, c1, c2, c3, c4].drop 3).take (Try.prog.cellsOf 9)) = xs[2]? := hf 2 _ rfl
    rw [e2, show Try.prog.cellsOf 9 = 1 by kernel_rfl] at g2
    simp only [List.drop_zero, List.drop_succ_cons, List.take_succ_cons, List.take_zero] at g2
    obtain ⟨y2, r2⟩ := (opens_str Try.underlying9) _ _ _ g2
    obtain ⟨q2, w2⟩ := r2
    simp only [List.cons.injEq, and_true] at q2
    obtain ⟨z3, e3⟩ : ∃ z, xs[3]? = some z := ⟨xs[3]'(by rw [hxs]; decide), List.getElem?_eq_getElem _⟩
    have g3 : DataW.trod enc Try.prog w 0 (fun _ => true) true n 30 (([c0, c1, c2, c3, c4].drop 4).take (Try.prog.cellsOf 30)) = xs[3]? := hf 3 _ rfl
    rw [e3, show Try.prog.cellsOf 30 = 1 by kernel_rfl] at g3
    simp only [List.drop_zero, List.drop_succ_cons, List.take_succ_cons, List.take_zero] at g3
    obtain ⟨y3, r3⟩ := (opens_slice (size := 1) Try.underlying30 (opens_bool Try.underlying4) (by kernel_rfl) (by decide)) _ _ _ g3
    subst q0
    obtain ⟨rfl, rfl⟩ := q1
    subst q2
    exact ⟨⟨y0, y1, y2, y3⟩, _, rfl, w0, w1_0, w1_1, w2, r3⟩

end Go.Proofs.Ytmlakbdigbpmaaa
