/- Plain data for the struct parameters of the laws, and how a reading opens them: no condition. -/
import Derived.Test.YtmdjbmhjnajpgaaDoorArg
namespace Go.Proofs.YtmdjbmhjnajpgaaDoor
open Go.RowKit
set_option maxRecDepth 100000
set_option linter.unusedSimpArgs false
set_option linter.unusedVariables false

structure D_api_Loc where
  dev : Int
  at_ : Int


def R_api_Loc (B : Nat) (w : World) (cs : List Value) (y : D_api_Loc) : Prop :=
  cs = [.int .i64 y.dev, .int .i64 y.at_] ∧ (Lit.int .i64 y.dev).wf = true ∧ (Lit.int .i64 y.at_).wf = true

theorem R_api_Loc_keep {B : Nat} {w w' : World} {cs : List Value} {y : D_api_Loc} (h : R_api_Loc B w cs y) (hb : Below B w w') : R_api_Loc B w' cs y := by
  obtain ⟨rfl, h0, h1⟩ := h
  exact ⟨rfl, h0, h1⟩

theorem opens_api_Loc {H : Type} {enc : TypeId × Value → H} {w : World} : Opens enc Tryd.prog w 33 (R_api_Loc w.heap.size w) := by
  intro fuel cs x h
  obtain ⟨xs, n, _, _, hlen, hxs, hf⟩ := DataW.trod_struct Tryd.underlying33 h
  rw [show Tryd.prog.cellsOf 33 = 2 by kernel_rfl] at hlen
  match cs, hlen with
  | [c0, c1], _ =>
    obtain ⟨z0, e0⟩ : ∃ z, xs[0]? = some z := ⟨xs[0]'(by rw [hxs]; decide), List.getElem?_eq_getElem _⟩
    have g0 : DataW.trod enc Tryd.prog w 0 (fun _ => true) true n 3 (([c0, c1].drop 0).take (Tryd.prog.cellsOf 3)) = xs[0]? := hf 0 _ rfl
    rw [e0, show Tryd.prog.cellsOf 3 = 1 by kernel_rfl] at g0
    simp only [List.drop_zero, List.drop_succ_cons, List.take_succ_cons, List.take_zero] at g0
    obtain ⟨y0, r0⟩ := (opens_int Tryd.underlying3) _ _ _ g0
    obtain ⟨q0, w0⟩ := r0
    simp only [List.cons.injEq, and_true] at q0
    obtain ⟨z1, e1⟩ : ∃ z, xs[1]? = some z := ⟨xs[1]'(by rw [hxs]; decide), List.getElem?_eq_getElem _⟩
    have g1 : DataW.trod enc Tryd.prog w 0 (fun _ => true) true n 3 (([c0, c1].drop 1).take (Tryd.prog.cellsOf 3)) = xs[1]? := hf 1 _ rfl
    rw [e1, show Tryd.prog.cellsOf 3 = 1 by kernel_rfl] at g1
    simp only [List.drop_zero, List.drop_succ_cons, List.take_succ_cons, List.take_zero] at g1
    obtain ⟨y1, r1⟩ := (opens_int Tryd.underlying3) _ _ _ g1
    obtain ⟨q1, w1⟩ := r1
    simp only [List.cons.injEq, and_true] at q1
    subst q0
    subst q1
    exact ⟨⟨y0, y1⟩, rfl, w0, w1⟩

structure D_api_Ptr where
  locs : List D_api_Loc
  len : Int
  birth : Int
  sum : List UInt8


def R_api_Ptr (B : Nat) (w : World) (cs : List Value) (y : D_api_Ptr) : Prop :=
  ∃ v0 : Value, cs = [v0, .int .i64 y.len, .int .i64 y.birth, .string (bstr y.sum)] ∧ SlAt B w (R_api_Loc B w) 2 [v0] y.locs ∧ (Lit.int .i64 y.len).wf = true ∧ (Lit.int .i64 y.birth).wf = true ∧ y.sum.length ≤ 9223372036854775807

theorem R_api_Ptr_keep {B : Nat} {w w' : World} {cs : List Value} {y : D_api_Ptr} (h : R_api_Ptr B w cs y) (hb : Below B w w') : R_api_Ptr B w' cs y := by
  obtain ⟨v0, rfl, h0, h1, h2, h3⟩ := h
  exact ⟨v0, rfl, h0.keep hb (fun _ _ h => R_api_Loc_keep h hb), h1, h2, h3⟩

theorem opens_api_Ptr {H : Type} {enc : TypeId × Value → H} {w : World} : Opens enc Tryd.prog w 25 (R_api_Ptr w.heap.size w) := by
  intro fuel cs x h
  obtain ⟨xs, n, _, _, hlen, hxs, hf⟩ := DataW.trod_struct Tryd.underlying25 h
  rw [show Tryd.prog.cellsOf 25 = 4 by kernel_rfl] at hlen
  match cs, hlen with
  | [c0, c1, c2, c3], _ =>
    obtain ⟨z0, e0⟩ : ∃ z, xs[0]? = some z := ⟨xs[0]'(by rw [hxs]; decide), List.getElem?_eq_getElem _⟩
    have g0 : DataW.trod enc Tryd.prog w 0 (fun _ => true) true n 23 (([c0, c1, c2, c3].drop 0).take (Tryd.prog.cellsOf 23)) = xs[0]? := hf 0 _ rfl
    rw [e0, show Tryd.prog.cellsOf 23 = 1 by kernel_rfl] at g0
    simp only [List.drop_zero, List.drop_succ_cons, List.take_succ_cons, List.take_zero] at g0
    obtain ⟨y0, r0⟩ := (opens_slice (size := 2) Tryd.underlying23 opens_api_Loc (by kernel_rfl) (by decide)) _ _ _ g0
    obtain ⟨z1, e1⟩ : ∃ z, xs[1]? = some z := ⟨xs[1]'(by rw [hxs]; decide), List.getElem?_eq_getElem _⟩
    have g1 : DataW.trod enc Tryd.prog w 0 (fun _ => true) true n 3 (([c0, c1, c2, c3].drop 1).take (Tryd.prog.cellsOf 3)) = xs[1]? := hf 1 _ rfl
    rw [e1, show Tryd.prog.cellsOf 3 = 1 by kernel_rfl] at g1
    simp only [List.drop_zero, List.drop_succ_cons, List.take_succ_cons, List.take_zero] at g1
    obtain ⟨y1, r1⟩ := (opens_int Tryd.underlying3) _ _ _ g1
    obtain ⟨q1, w1⟩ := r1
    simp only [List.cons.injEq, and_true] at q1
    obtain ⟨z2, e2⟩ : ∃ z, xs[2]? = some z := ⟨xs[2]'(by rw [hxs]; decide), List.getElem?_eq_getElem _⟩
    have g2 : DataW.trod enc Tryd.prog w 0 (fun _ => true) true n 3 (([c0, c1, c2, c3].drop 2).take (Tryd.prog.cellsOf 3)) = xs[2]? := hf 2 _ rfl
    rw [e2, show Tryd.prog.cellsOf 3 = 1 by kernel_rfl] at g2
    simp only [List.drop_zero, List.drop_succ_cons, List.take_succ_cons, List.take_zero] at g2
    obtain ⟨y2, r2⟩ := (opens_int Tryd.underlying3) _ _ _ g2
    obtain ⟨q2, w2⟩ := r2
    simp only [List.cons.injEq, and_true] at q2
    obtain ⟨z3, e3⟩ : ∃ z, xs[3]? = some z := ⟨xs[3]'(by rw [hxs]; decide), List.getElem?_eq_getElem _⟩
    have g3 : DataW.trod enc Tryd.prog w 0 (fun _ => true) true n 9 (([c0, c1, c2, c3].drop 3).take (Tryd.prog.cellsOf 9)) = xs[3]? := hf 3 _ rfl
    rw [e3, show Tryd.prog.cellsOf 9 = 1 by kernel_rfl] at g3
    simp only [List.drop_zero, List.drop_succ_cons, List.take_succ_cons, List.take_zero] at g3
    obtain ⟨y3, r3⟩ := (opens_str Tryd.underlying9) _ _ _ g3
    obtain ⟨q3, w3⟩ := r3
    simp only [List.cons.injEq, and_true] at q3
    subst q1
    subst q2
    subst q3
    exact ⟨⟨y0, y1, y2, y3⟩, _, rfl, r0, w1, w2, w3⟩

structure D_permafrostlaw05_Op where
  do_ : Int
  locs : List D_api_Loc
  s : List UInt8
  n : Int
  p : D_api_Ptr


def R_permafrostlaw05_Op (B : Nat) (w : World) (cs : List Value) (y : D_permafrostlaw05_Op) : Prop :=
  ∃ v1 v4 : Value, cs = [.int .i64 y.do_, v1, .string (bstr y.s), .int .i64 y.n, v4, .int .i64 y.p.len, .int .i64 y.p.birth, .string (bstr y.p.sum)] ∧ (Lit.int .i64 y.do_).wf = true ∧ SlAt B w (R_api_Loc B w) 2 [v1] y.locs ∧ y.s.length ≤ 9223372036854775807 ∧ (Lit.int .i64 y.n).wf = true ∧ SlAt B w (R_api_Loc B w) 2 [v4] y.p.locs ∧ (Lit.int .i64 y.p.len).wf = true ∧ (Lit.int .i64 y.p.birth).wf = true ∧ y.p.sum.length ≤ 9223372036854775807

theorem R_permafrostlaw05_Op_keep {B : Nat} {w w' : World} {cs : List Value} {y : D_permafrostlaw05_Op} (h : R_permafrostlaw05_Op B w cs y) (hb : Below B w w') : R_permafrostlaw05_Op B w' cs y := by
  obtain ⟨v1, v4, rfl, h0, h1, h2, h3, h4, h5, h6, h7⟩ := h
  exact ⟨v1, v4, rfl, h0, h1.keep hb (fun _ _ h => R_api_Loc_keep h hb), h2, h3, h4.keep hb (fun _ _ h => R_api_Loc_keep h hb), h5, h6, h7⟩

theorem opens_permafrostlaw05_Op {H : Type} {enc : TypeId × Value → H} {w : World} : Opens enc Tryd.prog w 35 (R_permafrostlaw05_Op w.heap.size w) := by
  intro fuel cs x h
  obtain ⟨xs, n, _, _, hlen, hxs, hf⟩ := DataW.trod_struct Tryd.underlying35 h
  rw [show Tryd.prog.cellsOf 35 = 8 by kernel_rfl] at hlen
  match cs, hlen with
  | [c0, c1, c2, c3, c4, c5, c6, c7], _ =>
    obtain ⟨z0, e0⟩ : ∃ z, xs[0]? = some z := ⟨xs[0]'(by rw [hxs]; decide), List.getElem?_eq_getElem _⟩
    have g0 : DataW.trod enc Tryd.prog w 0 (fun _ => true) true n 3 (([c0, c1, c2, c3, c4, c5, c6, c7].drop 0).take (Tryd.prog.cellsOf 3)) = xs[0]? := hf 0 _ rfl
    rw [e0, show Tryd.prog.cellsOf 3 = 1 by kernel_rfl] at g0
    simp only [List.drop_zero, List.drop_succ_cons, List.take_succ_cons, List.take_zero] at g0
    obtain ⟨y0, r0⟩ := (opens_int Tryd.underlying3) _ _ _ g0
    obtain ⟨q0, w0⟩ := r0
    simp only [List.cons.injEq, and_true] at q0
    obtain ⟨z1, e1⟩ : ∃ z, xs[1]? = some z := ⟨xs[1]'(by rw [hxs]; decide), List.getElem?_eq_getElem _⟩
    have g1 : DataW.trod enc Tryd.prog w 0 (fun _ => true) true n 23 (([c0, c1, c2, c3, c4, c5, c6, c7].drop 1).take (Tryd.prog.cellsOf 23)) = xs[1]? := hf 1 _ rfl
    rw [e1, show Tryd.prog.cellsOf 23 = 1 by kernel_rfl] at g1
    simp only [List.drop_zero, List.drop_succ_cons, List.take_succ_cons, List.take_zero] at g1
    obtain ⟨y1, r1⟩ := (opens_slice (size := 2) Tryd.underlying23 opens_api_Loc (by kernel_rfl) (by decide)) _ _ _ g1
    obtain ⟨z2, e2⟩ : ∃ z, xs[2]? = some z := ⟨xs[2]'(by rw [hxs]; decide), List.getElem?_eq_getElem _⟩
    have g2 : DataW.trod enc Tryd.prog w 0 (fun _ => true) true n 9 (([c0, c1, c2, c3, c4, c5, c6, c7].drop 2).take (Tryd.prog.cellsOf 9)) = xs[2]? := hf 2 _ rfl
    rw [e2, show Tryd.prog.cellsOf 9 = 1 by kernel_rfl] at g2
    simp only [List.drop_zero, List.drop_succ_cons, List.take_succ_cons, List.take_zero] at g2
    obtain ⟨y2, r2⟩ := (opens_str Tryd.underlying9) _ _ _ g2
    obtain ⟨q2, w2⟩ := r2
    simp only [List.cons.injEq, and_true] at q2
    obtain ⟨z3, e3⟩ : ∃ z, xs[3]? = some z := ⟨xs[3]'(by rw [hxs]; decide), List.getElem?_eq_getElem _⟩
    have g3 : DataW.trod enc Tryd.prog w 0 (fun _ => true) true n 3 (([c0, c1, c2, c3, c4, c5, c6, c7].drop 3).take (Tryd.prog.cellsOf 3)) = xs[3]? := hf 3 _ rfl
    rw [e3, show Tryd.prog.cellsOf 3 = 1 by kernel_rfl] at g3
    simp only [List.drop_zero, List.drop_succ_cons, List.take_succ_cons, List.take_zero] at g3
    obtain ⟨y3, r3⟩ := (opens_int Tryd.underlying3) _ _ _ g3
    obtain ⟨q3, w3⟩ := r3
    simp only [List.cons.injEq, and_true] at q3
    obtain ⟨z4, e4⟩ : ∃ z, xs[4]? = some z := ⟨xs[4]'(by rw [hxs]; decide), List.getElem?_eq_getElem _⟩
    have g4 : DataW.trod enc Tryd.prog w 0 (fun _ => true) true n 25 (([c0, c1, c2, c3, c4, c5, c6, c7].drop 4).take (Tryd.prog.cellsOf 25)) = xs[4]? := hf 4 _ rfl
    rw [e4, show Tryd.prog.cellsOf 25 = 4 by kernel_rfl] at g4
    simp only [List.drop_zero, List.drop_succ_cons, List.take_succ_cons, List.take_zero] at g4
    obtain ⟨y4, r4⟩ := opens_api_Ptr _ _ _ g4
    obtain ⟨u4_0, q4, w4_0, w4_1, w4_2, w4_3⟩ := r4
    simp only [List.cons.injEq, and_true] at q4
    subst q0
    subst q2
    subst q3
    obtain ⟨rfl, rfl, rfl, rfl⟩ := q4
    exact ⟨⟨y0, y1, y2, y3, y4⟩, _, _, rfl, w0, r1, w2, w3, w4_0, w4_1, w4_2, w4_3⟩

end Go.Proofs.YtmdjbmhjnajpgaaDoor
