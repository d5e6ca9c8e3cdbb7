import Derived.Test.YtjbnhofdpklfoaaArg
namespace Go.Proofs.Ytjbnhofdpklfoaa
open Go.RowKit
set_option linter.unusedSimpArgs false
set_option linter.unusedVariables false

structure D_permafrostref15_Inode where
  dir : Bool
  size : Int
  links : Int


def R_permafrostref15_Inode (B : Nat) (w : World) (cs : List Value) (y : D_permafrostref15_Inode) : Prop :=
  cs = [.bool y.dir, .int .i64 y.size, .int .i64 y.links] ∧ (Lit.int .i64 y.size).wf = true ∧ (Lit.int .i64 y.links).wf = true

theorem R_permafrostref15_Inode_keep {B : Nat} {w w' : World} {cs : List Value} {y : D_permafrostref15_Inode} (h : R_permafrostref15_Inode B w cs y) (hb : Below B w w') : R_permafrostref15_Inode B w' cs y := by
  obtain ⟨rfl, h0, h1⟩ := h
  exact ⟨rfl, h0, h1⟩

theorem opens_permafrostref15_Inode {H : Type} {enc : TypeId × Value → H} {w : World} : Opens enc Try.prog w 30 (R_permafrostref15_Inode w.heap.size w) := by
  intro fuel cs x h
  obtain ⟨xs, n, _, _, hlen, hxs, hf⟩ := DataW.trod_struct Try.underlying30 h
  rw [show Try.prog.cellsOf 30 = 3 by kernel_rfl] at hlen
  match cs, hlen with
  | [c0, c1, c2], _ =>
    obtain ⟨z0, e0⟩ : ∃ z, xs[0]? = some z := ⟨xs[0]'(by rw [hxs]; decide), List.getElem?_eq_getElem _⟩
    have g0 : DataW.trod enc Try.prog w 0 (fun _ => true) true n 4 (([c0, c1, c2].drop 0).take (Try.prog.cellsOf 4)) = xs[0]? := hf 0 _ rfl
    rw [e0, show Try.prog.cellsOf 4 = 1 by kernel_rfl] at g0
    simp only [List.drop_zero, List.drop_succ_cons, List.take_succ_cons, List.take_zero] at g0
    obtain ⟨y0, r0⟩ := (opens_bool Try.underlying4) _ _ _ g0
    simp only [IsBool, List.cons.injEq, and_true] at r0
    obtain ⟨z1, e1⟩ : ∃ z, xs[1]? = some z := ⟨xs[1]'(by rw [hxs]; decide), List.getElem?_eq_getElem _⟩
    have g1 : DataW.trod enc Try.prog w 0 (fun _ => true) true n 3 (([c0, c1, c2].drop 1).take (Try.prog.cellsOf 3)) = xs[1]? := hf 1 _ rfl
    rw [e1, show Try.prog.cellsOf 3 = 1 by kernel_rfl] at g1
    simp only [List.drop_zero, List.drop_succ_cons, List.take_succ_cons, List.take_zero] at g1
    obtain ⟨y1, r1⟩ := (opens_int Try.underlying3) _ _ _ g1
    obtain ⟨q1, w1⟩ := r1
    simp only [List.cons.injEq, and_true] at q1
    obtain ⟨z2, e2⟩ : ∃ z, xs[2]? = some z := ⟨xs[2]'(by rw [hxs]; decide), List.getElem?_eq_getElem _⟩
    have g2 : DataW.trod enc Try.prog w 0 (fun _ => true) true n 3 (([c0, c1, c2].drop 2).take (Try.prog.cellsOf 3)) = xs[2]? := hf 2 _ rfl
    rw [e2, show Try.prog.cellsOf 3 = 1 by kernel_rfl] at g2
    simp only [List.drop_zero, List.drop_succ_cons, List.take_succ_cons, List.take_zero] at g2
    obtain ⟨y2, r2⟩ := (opens_int Try.underlying3) _ _ _ g2
    obtain ⟨q2, w2⟩ := r2
    simp only [List.cons.injEq, and_true] at q2
    subst r0
    subst q1
    subst q2
    exact ⟨⟨y0, y1, y2⟩, rfl, w1, w2⟩

structure D_permafrostlaw15_Two where
  n : Int
  m : Int
  a : List UInt8
  b : List UInt8


def R_permafrostlaw15_Two (B : Nat) (w : World) (cs : List Value) (y : D_permafrostlaw15_Two) : Prop :=
  cs = [.int .i64 y.n, .int .i64 y.m, .string (bstr y.a), .string (bstr y.b)] ∧ (Lit.int .i64 y.n).wf = true ∧ (Lit.int .i64 y.m).wf = true ∧ y.a.length ≤ 9223372036854775807 ∧ y.b.length ≤ 9223372036854775807

theorem R_permafrostlaw15_Two_keep {B : Nat} {w w' : World} {cs : List Value} {y : D_permafrostlaw15_Two} (h : R_permafrostlaw15_Two B w cs y) (hb : Below B w w') : R_permafrostlaw15_Two B w' cs y := by
  obtain ⟨rfl, h0, h1, h2, h3⟩ := h
  exact ⟨rfl, h0, h1, h2, h3⟩

theorem opens_permafrostlaw15_Two {H : Type} {enc : TypeId × Value → H} {w : World} : Opens enc Try.prog w 44 (R_permafrostlaw15_Two w.heap.size w) := by
  intro fuel cs x h
  obtain ⟨xs, n, _, _, hlen, hxs, hf⟩ := DataW.trod_struct Try.underlying44 h
  rw [show Try.prog.cellsOf 44 = 4 by kernel_rfl] at hlen
  match cs, hlen with
  | [c0, c1, c2, c3], _ =>
    obtain ⟨z0, e0⟩ : ∃ z, xs[0]? = some z := ⟨xs[0]'(by rw [hxs]; decide), List.getElem?_eq_getElem _⟩
    have g0 : DataW.trod enc Try.prog w 0 (fun _ => true) true n 3 (([c0, c1, c2, c3].drop 0).take (Try.prog.cellsOf 3)) = xs[0]? := hf 0 _ rfl
    rw [e0, show Try.prog.cellsOf 3 = 1 by kernel_rfl] at g0
    simp only [List.drop_zero, List.drop_succ_cons, List.take_succ_cons, List.take_zero] at g0
    obtain ⟨y0, r0⟩ := (opens_int Try.underlying3) _ _ _ g0
    obtain ⟨q0, w0⟩ := r0
    simp only [List.cons.injEq, and_true] at q0
    obtain ⟨z1, e1⟩ : ∃ z, xs[1]? = some z := ⟨xs[1]'(by rw [hxs]; decide), List.getElem?_eq_getElem _⟩
    have g1 : DataW.trod enc Try.prog w 0 (fun _ => true) true n 3 (([c0, c1, c2, c3].drop 1).take (Try.prog.cellsOf 3)) = xs[1]? := hf 1 _ rfl
    rw [e1, show Try.prog.cellsOf 3 = 1 by kernel_rfl] at g1
    simp only [List.drop_zero, List.drop_succ_cons, List.take_succ_cons, List.take_zero] at g1
    obtain ⟨y1, r1⟩ := (opens_int Try.underlying3) _ _ _ g1
    obtain ⟨q1, w1⟩ := r1
    simp only [List.cons.injEq, and_true] at q1
    obtain ⟨z2, e2⟩ : ∃ z, xs[2]? = some z := ⟨xs[2]'(by rw [hxs]; decide), List.getElem?_eq_getElem _⟩
    have g2 : DataW.trod enc Try.prog w 0 (fun _ => true) true n 9 (([c0, c1, c2, c3].drop 2).take (Try.prog.cellsOf 9)) = xs[2]? := hf 2 _ rfl
    rw [e2, show Try.prog.cellsOf 9 = 1 by kernel_rfl] at g2
    simp only [List.drop_zero, List.drop_succ_cons, List.take_succ_cons, List.take_zero] at g2
    obtain ⟨y2, r2⟩ := (opens_str Try.underlying9) _ _ _ g2
    obtain ⟨q2, w2⟩ := r2
    simp only [List.cons.injEq, and_true] at q2
    obtain ⟨z3, e3⟩ : ∃ z, xs[3]? = some z := ⟨xs[3]'(by rw [hxs]; decide), List.getElem?_eq_getElem _⟩
    have g3 : DataW.trod enc Try.prog w 0 (fun _ => true) true n 9 (([c0, c1, c2, c3].drop 3).take (Try.prog.cellsOf 9)) = xs[3]? := hf 3 _ rfl
    rw [e3, show Try.prog.cellsOf 9 = 1 by kernel_rfl] at g3
    simp only [List.drop_zero, List.drop_succ_cons, List.take_succ_cons, List.take_zero] at g3
    obtain ⟨y3, r3⟩ := (opens_str Try.underlying9) _ _ _ g3
    obtain ⟨q3, w3⟩ := r3
    simp only [List.cons.injEq, and_true] at q3
    subst q0
    subst q1
    subst q2
    subst q3
    exact ⟨⟨y0, y1, y2, y3⟩, rfl, w0, w1, w2, w3⟩

end Go.Proofs.Ytjbnhofdpklfoaa
