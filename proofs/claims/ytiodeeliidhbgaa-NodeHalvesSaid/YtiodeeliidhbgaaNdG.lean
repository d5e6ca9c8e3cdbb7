/- Split of package node where there are no halves; its contract; contracts at what is known. -/
import Derived.Test.YtiodeeliidhbgaaNdF
namespace Go.Proofs.Ytiodeeliidhbgaa
open Go Go.RowKit
set_option linter.unusedSimpArgs false
set_option linter.unnecessarySimpa false
set_option linter.unusedVariables false

set_option maxHeartbeats 2000000 in
theorem split_no (v : Value) (n : Nd) (w : World) (h : NdV w v n) (hk : n.keys.length ≤ 1000000) (hv : n.vals.length ≤ 1000000) (hh : halvesN n = false) :
    Calls Try.prog 25 #[v] w fun e w' => e = .returned (.tuple #[.agg #[.bool false, .slice none 0 0, .slice none 0 0], .agg #[.bool false, .slice none 0 0, .slice none 0 0], .bool false]) ∧ Below w.heap.size w w' := by
  have hnn := h
  obtain ⟨vk, vv, rfl, h1, h2⟩ := h
  obtain ⟨A, c, rfl⟩ := h1.form
  obtain ⟨C, d, rfl⟩ := h2.form
  obtain ⟨leaf, ks, vs⟩ := n
  simp only at h1 h2 hk hv hnn ⊢
  obtain ⟨m, hm⟩ : ∃ m, mayB ⟨leaf, ks, vs⟩ = m := ⟨_, rfl⟩
  have hl : m = true → ks.length < 2 := by
    intro e
    unfold halvesN at hh
    rw [hm, e] at hh
    simp at hh
    exact hh
  have HM := Lib.hid hm
  obtain ⟨o0, ho0⟩ : ∃ o : Obj, Obj.cells #[.bool leaf, .slice A ks.length c, .slice C vs.length d] 30 = o := ⟨_, rfl⟩
  obtain ⟨oz, hoz⟩ : ∃ o : Obj, Obj.cells #[.bool false, .slice none 0 0, .slice none 0 0] 30 = o := ⟨_, rfl⟩
  have p0 := ((Blk.new w 30 #[.bool leaf, .slice A ks.length c, .slice C vs.length d]).alloc oz).alloc oz
  have p1 := (Blk.new (w.alloc o0) 30 #[.bool false, .slice none 0 0, .slice none 0 0]).alloc oz
  have p2 := Blk.new ((w.alloc o0).alloc oz) 30 #[.bool false, .slice none 0 0, .slice none 0 0]
  rw [ho0] at p0
  rw [hoz] at p1 p2
  have k0 : Below w.heap.size w (((w.alloc o0).alloc oz).alloc oz) := (((Below.refl _ _).alloc (Nat.le_refl _) _).alloc (by simp) _).alloc (by simp; omega) _
  have e1 : (w.alloc o0).heap.size = w.heap.size + 1 := by simp
  have e2 : ((w.alloc o0).alloc oz).heap.size = w.heap.size + 1 + 1 := by simp
  rw [e1] at p1
  rw [e2] at p2
  have hN := hnn.below k0
  subst ho0
  subst hoz
  have y0 := p0.cell 0
  have y1 := p0.cell 1
  have y2 := p0.cell 2
  simp at y0 y1 y2
  clear e1 e2 h1 h2 hnn hh hm
  go_enter Try.func25, Try.ntmps25
  go_wp2_with fail
  obtain ⟨w0, hw0⟩ : ∃ x, ((w.alloc (.cells #[.bool leaf, .slice A ks.length c, .slice C vs.length d] 30)).alloc (.cells #[.bool false, .slice none 0 0, .slice none 0 0] 30)).alloc (.cells #[.bool false, .slice none 0 0, .slice none 0 0] 30) = x := ⟨_, rfl⟩
  rw [hw0] at p0 p1 p2 k0 hN ⊢
  obtain ⟨G, hG⟩ : ∃ x, w.heap.size = x := ⟨_, rfl⟩
  rw [hG] at p0 p1 p2 ⊢
  clear hw0 y0 y1 y2
  refine (may_to HM.out _ w0 hN hk hv).mono ?_
  rintro e w1 ⟨rfl, k1⟩
  have p0 := p0.below k1 p0.lt
  have p1 := p1.below k1 p1.lt
  have p2 := p2.below k1 p2.lt
  have k0 := hthen k0 k1
  have y1 := p0.cell 1
  have z0 := p1.cell 0
  have z1 := p1.cell 1
  have z2 := p1.cell 2
  have f0 := p1.frozen 0
  have f1 := p1.frozen 1
  have f2 := p1.frozen 2
  have u0 := p2.cell 0
  have u1 := p2.cell 1
  have u2 := p2.cell 2
  have g0 := p2.frozen 0
  have g1 := p2.frozen 1
  have g2 := p2.frozen 2
  simp at y1 z0 z1 z2 u0 u1 u2
  have q2 : m = true → decide ((ks.length : Int) < 2) = true := fun e => decide_eq_true (by have := hl e; omega)
  have x1 : Blk ((((((w1.setCell ⟨G + 1, 0, none⟩ (.bool false)).setCell ⟨G + 1, 1, none⟩ (.slice none 0 0)).setCell ⟨G + 1, 2, none⟩ (.slice none 0 0)).setCell ⟨G + 1 + 1, 0, none⟩ (.bool false)).setCell ⟨G + 1 + 1, 1, none⟩ (.slice none 0 0)).setCell ⟨G + 1 + 1, 2, none⟩ (.slice none 0 0)) (G + 1) 30 #[.bool false, .slice none 0 0, .slice none 0 0] := by
    simpa using (((((p1.set_ 0 (.bool false)).set_ 1 (.slice none 0 0)).set_ 2 (.slice none 0 0)).far (p := ⟨G + 1 + 1, 0, none⟩) (by simp) (.bool false)).far (p := ⟨G + 1 + 1, 1, none⟩) (by simp) (.slice none 0 0)).far (p := ⟨G + 1 + 1, 2, none⟩) (by simp) (.slice none 0 0)
  have x2 : Blk ((((((w1.setCell ⟨G + 1, 0, none⟩ (.bool false)).setCell ⟨G + 1, 1, none⟩ (.slice none 0 0)).setCell ⟨G + 1, 2, none⟩ (.slice none 0 0)).setCell ⟨G + 1 + 1, 0, none⟩ (.bool false)).setCell ⟨G + 1 + 1, 1, none⟩ (.slice none 0 0)).setCell ⟨G + 1 + 1, 2, none⟩ (.slice none 0 0)) (G + 1 + 1) 30 #[.bool false, .slice none 0 0, .slice none 0 0] := by
    simpa using (((((p2.far (p := ⟨G + 1, 0, none⟩) (by simp) (.bool false)).far (p := ⟨G + 1, 1, none⟩) (by simp) (.slice none 0 0)).far (p := ⟨G + 1, 2, none⟩) (by simp) (.slice none 0 0)).set_ 0 (.bool false)).set_ 1 (.slice none 0 0)).set_ 2 (.slice none 0 0)
  have v0 := x1.cell 0
  have v1 := x1.cell 1
  have v2 := x1.cell 2
  have t0 := x2.cell 0
  have t1 := x2.cell 1
  have t2 := x2.cell 2
  simp at v0 v1 v2 t0 t1 t2
  have bel : Below w.heap.size w ((((((w1.setCell ⟨G + 1, 0, none⟩ (.bool false)).setCell ⟨G + 1, 1, none⟩ (.slice none 0 0)).setCell ⟨G + 1, 2, none⟩ (.slice none 0 0)).setCell ⟨G + 1 + 1, 0, none⟩ (.bool false)).setCell ⟨G + 1 + 1, 1, none⟩ (.slice none 0 0)).setCell ⟨G + 1 + 1, 2, none⟩ (.slice none 0 0)) :=
    below_at (below_at (below_at (below_at (below_at (below_at k0 (show w.heap.size ≤ G + 1 by omega) _ _) (show w.heap.size ≤ G + 1 by omega) _ _) (show w.heap.size ≤ G + 1 by omega) _ _) (show w.heap.size ≤ G + 1 + 1 by omega) _ _) (show w.heap.size ≤ G + 1 + 1 by omega) _ _) (show w.heap.size ≤ G + 1 + 1 by omega) _ _
  clear x1 x2 p0 p1 p2 hl k1
  cases m
  · go_wp2
    refine bodyPost_ret (v := .tuple #[.agg #[.bool false, .slice none 0 0, .slice none 0 0], .agg #[.bool false, .slice none 0 0, .slice none 0 0], .bool false]) ?h1 rfl ⟨rfl, bel⟩
    case h1 => simp [results, Try.results25, go_sem, v0, v1, v2, t0, t1, t2]
  · have q3 := q2 rfl
    clear q2
    go_wp2
    refine bodyPost_ret (v := .tuple #[.agg #[.bool false, .slice none 0 0, .slice none 0 0], .agg #[.bool false, .slice none 0 0, .slice none 0 0], .bool false]) ?h1 rfl ⟨rfl, bel⟩
    case h1 => simp [results, Try.results25, go_sem, v0, v1, v2, t0, t1, t2]

theorem ss_nil (w : World) : SsAt w (.slice none 0 0) [] := ⟨none, 0, rfl, fun j hj => by simp at hj⟩
theorem nd_empty (w : World) : NdV w (.agg #[.bool false, .slice none 0 0, .slice none 0 0]) emptyN := ⟨_, _, rfl, ss_nil w, ss_nil w⟩
theorem split_any (v : Value) (n : Nd) (w : World) (h : NdV w v n) (hk : n.keys.length ≤ 1000000) (hv : n.vals.length ≤ 1000000) :
    Calls Try.prog 25 #[v] w fun e w' => ∃ ua ub, e = .returned (.tuple #[ua, ub, .bool (halvesN n)]) ∧ NdV w' ua (firstN n) ∧ NdV w' ub (secondN n) ∧ Below w.heap.size w w' := by
  cases hh : halvesN n
  · refine (split_no v n w h hk hv hh).mono ?_
    rintro e w' ⟨rfl, hb⟩
    refine ⟨_, _, rfl, ?_, ?_, hb⟩
    · unfold firstN; rw [hh]; exact nd_empty w'
    · unfold secondN; rw [hh]; exact nd_empty w'
  · have hh2 := hh
    unfold halvesN at hh2
    simp only [Bool.and_eq_true, decide_eq_true_eq] at hh2
    obtain ⟨vk, vv, rfl, h1, h2⟩ := h
    obtain ⟨leaf, ks, vs⟩ := n
    refine (split_yes leaf ks vs vk vv hh2.1 hh2.2 w ⟨_, _, rfl, h1, h2⟩).mono ?_
    rintro e w' ⟨ua, ub, rfl, h3, h4, hb⟩
    refine ⟨ua, ub, rfl, ?_, ?_, hb⟩
    · unfold firstN; rw [hh]; exact h3
    · unfold secondN; rw [hh]; exact h4

/-! at what is known -/
theorem with_to {n n' : Nd} {key val : List UInt8} (hn : withN n key val = n') (v : Value) (w : World) (h : NdV w v n) (hk : n.keys.length ≤ 1000000) (hv : n.vals.length ≤ 1000000) :
    Calls Try.prog 27 #[v, .string (bstr key), .string (bstr val)] w fun e w' => ∃ u, e = .returned u ∧ NdV w' u n' ∧ Below w.heap.size w w' := hn ▸ with_any n v key val w h hk hv
theorem without_to {n n' : Nd} {key : List UInt8} (hn : withoutN n key = n') (v : Value) (w : World) (h : NdV w v n) (hk : n.keys.length ≤ 1000000) (hv : n.vals.length ≤ 1000000) :
    Calls Try.prog 29 #[v, .string (bstr key)] w fun e w' => ∃ u, e = .returned u ∧ NdV w' u n' ∧ Below w.heap.size w w' := hn ▸ without_any n v key w h hk hv
theorem split_to {n a b : Nd} {x : Bool} (ha : firstN n = a) (hb : secondN n = b) (hx : halvesN n = x) (v : Value) (w : World) (h : NdV w v n) (hk : n.keys.length ≤ 1000000) (hv : n.vals.length ≤ 1000000) :
    Calls Try.prog 25 #[v] w fun e w' => ∃ ua ub, e = .returned (.tuple #[ua, ub, .bool x]) ∧ NdV w' ua a ∧ NdV w' ub b ∧ Below w.heap.size w w' := by
  subst ha; subst hb; subst hx; exact split_any v n w h hk hv
theorem enc_to {n : Nd} {q : List UInt8} {e0 : Int} (hq : nencL n = q) (he : checkN n = e0) (v : Value) (w : World) (h : NdV w v n) (hk : n.keys.length ≤ 1000000) (hv : n.vals.length ≤ 1000000) :
    Calls Try.prog 12 #[v] w fun e w' => e = .returned (.tuple #[.string (bstr q), .int .i64 e0]) ∧ Below w.heap.size w w' := by
  subst hq; subst he; exact enc_any v n w h hk hv
theorem dec_to {s : List UInt8} {n : Nd} {e0 : Int} (hd : decD s = (n, e0)) (hs : s.length ≤ 140737488351232) (w : World) :
    Calls Try.prog 21 #[.string (bstr s)] w fun e w' => ∃ u, e = .returned (.tuple #[u, .int .i64 e0]) ∧ NdV w' u n ∧ Below w.heap.size w w' := by
  have := dec_any s hs w
  rwa [hd] at this
/-- a node's value, written out -/
theorem NdV.form {w : World} {v : Value} {n : Nd} (h : NdV w v n) : ∃ A c C d, v = .agg #[.bool n.leaf, .slice A n.keys.length c, .slice C n.vals.length d] := by
  obtain ⟨vk, vv, rfl, h1, h2⟩ := h
  obtain ⟨A, c, rfl⟩ := h1.form
  obtain ⟨C, d, rfl⟩ := h2.form
  exact ⟨A, c, C, d, rfl⟩
end Go.Proofs.Ytiodeeliidhbgaa
