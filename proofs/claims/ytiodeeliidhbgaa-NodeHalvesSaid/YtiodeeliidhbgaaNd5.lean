/- Nodes of a tree: contracts of Same of the reference 09, and of the law's own and told. -/
import Derived.Test.YtiodeeliidhbgaaNd4
namespace Go.Proofs.Ytiodeeliidhbgaa
open Go Go.RowKit
set_option linter.unusedSimpArgs false
set_option linter.unnecessarySimpa false
set_option linter.unusedVariables false

theorem own_any (v : Value) (n : Nd) (w : World) (h : NdV w v n) :
    Calls Try.prog 13 #[v] w fun e w' => e = .returned v ∧ Below w.heap.size w w' := by
  obtain ⟨vk, vv, rfl, h1, h2⟩ := h
  obtain ⟨A, c, rfl⟩ := h1.form
  obtain ⟨C, d, rfl⟩ := h2.form
  go_enter Try.func13, Try.ntmps13
  go_wp2
  exact bodyPost_ret (v := .agg #[.bool n.leaf, .slice A n.keys.length c, .slice C n.vals.length d]) (by simp [results, Try.results13, go_sem]) rfl ⟨rfl, by
    repeat (first | exact Below.refl _ _ | refine below_at ?_ (by simp) _ _ | refine Below.alloc ?_ (by simp) _)⟩
theorem told_any (v : Value) (n : Nd) (w : World) (h : NdV w v n) :
    Calls Try.prog 24 #[v] w fun e w' => e = .returned v ∧ Below w.heap.size w w' := by
  obtain ⟨vk, vv, rfl, h1, h2⟩ := h
  obtain ⟨A, c, rfl⟩ := h1.form
  obtain ⟨C, d, rfl⟩ := h2.form
  go_enter Try.func24, Try.ntmps24
  go_wp2
  exact bodyPost_ret (v := .agg #[.bool n.leaf, .slice A n.keys.length c, .slice C n.vals.length d]) (by simp [results, Try.results24, go_sem]) rfl ⟨rfl, by
    repeat (first | exact Below.refl _ _ | refine below_at ?_ (by simp) _ _ | refine Below.alloc ?_ (by simp) _)⟩

set_option maxHeartbeats 1000000 in
theorem nsame_any (va vb : Value) (a b : Nd) (w : World) (ha : NdV w va a) (hb : NdV w vb b) (a1 : a.keys.length ≤ 1000000) (a2 : a.vals.length ≤ 1000000) (b1 : b.keys.length ≤ 1000000) (b2 : b.vals.length ≤ 1000000) :
    Calls Try.prog 23 #[va, vb] w fun e w' => e = .returned (.bool (decide (a = b))) ∧ Below w.heap.size w w' := by
  obtain ⟨vk, vv, rfl, h1, h2⟩ := ha
  obtain ⟨uk, uv, rfl, h3, h4⟩ := hb
  obtain ⟨A, c, rfl⟩ := h1.form
  obtain ⟨C, d, rfl⟩ := h2.form
  obtain ⟨A', c', rfl⟩ := h3.form
  obtain ⟨C', d', rfl⟩ := h4.form
  obtain ⟨la, ka, xa⟩ := a
  obtain ⟨lb, kb, xb⟩ := b
  simp only at h1 h2 h3 h4 a1 a2 b1 b2 ⊢
  have hdec : ∀ x y z : Bool, decide (la = lb) = x → decide (ka = kb) = y → decide (xa = xb) = z → decide ((⟨la, ka, xa⟩ : Nd) = ⟨lb, kb, xb⟩) = (x && (y && z)) := by
    rintro _ _ _ rfl rfl rfl
    simp [Bool.decide_and]
  obtain ⟨w0, hw0⟩ : ∃ x, w.alloc (.cells #[.bool la, .slice A ka.length c, .slice C xa.length d] 24) = x := ⟨_, rfl⟩
  obtain ⟨G, hG⟩ : ∃ x, w.heap.size = x := ⟨_, rfl⟩
  have p0 : Blk w0 G 24 #[.bool la, .slice A ka.length c, .slice C xa.length d] := by rw [← hw0, ← hG]; exact Blk.new _ _ _
  have k0 : Below w.heap.size w w0 := by rw [← hw0]; exact (Below.refl _ _).alloc (Nat.le_refl _) _
  obtain ⟨w1, hw1⟩ : ∃ x, w0.alloc (.cells #[.bool lb, .slice A' kb.length c', .slice C' xb.length d'] 24) = x := ⟨_, rfl⟩
  obtain ⟨G1, hG1⟩ : ∃ x, w0.heap.size = x := ⟨_, rfl⟩
  have p1 : Blk w1 G1 24 #[.bool lb, .slice A' kb.length c', .slice C' xb.length d'] := by rw [← hw1, ← hG1]; exact Blk.new _ _ _
  have k1 : Below w0.heap.size w0 w1 := by rw [← hw1]; exact (Below.refl _ _).alloc (Nat.le_refl _) _
  have kk := hthen k0 k1
  have p0 := p0.below k1 p0.lt
  have kG : Below G w w1 := hG ▸ kk
  have h1 := h1.below kk
  have h2 := h2.below kk
  have h3 := h3.below kk
  have h4 := h4.below kk
  have y0 := p0.cell 0
  have y1 := p0.cell 1
  have y2 := p0.cell 2
  have z0 := p1.cell 0
  have z1 := p1.cell 1
  have z2 := p1.cell 2
  simp at y0 y1 y2 z0 z1 z2
  by_cases hl : la = lb
  · subst hl
    have q0 : (la == la) = true := by simp
    cases hkd : decide (ka = kb)
    · have HD := Lib.hid (hdec true false _ (by simp) hkd rfl)
      have SM := same_any ka kb _ _ a1 b1 w1 h1 h3
      rw [hkd] at SM
      clear hkd hdec
      go_enter Try.func23, Try.ntmps23
      go_wp2_with fail
      refine SM.mono ?_
      rintro e w2 ⟨rfl, k2⟩
      go_wp2
      go_ret
      exact ⟨by rw [HD.out]; rfl, hthen kk k2⟩
    · have HD := Lib.hid (hdec true true _ (by simp) hkd rfl)
      have SM := same_any ka kb _ _ a1 b1 w1 h1 h3
      rw [hkd] at SM
      clear hkd hdec
      go_enter Try.func23, Try.ntmps23
      go_wp2_with fail
      refine SM.mono ?_
      rintro e w2 ⟨rfl, k2⟩
      have p0' := p0.below k2 p0.lt
      have p1' := p1.below k2 p1.lt
      have x2 := p0'.cell 2
      have u2 := p1'.cell 2
      simp at x2 u2
      have kk2 := hthen kk k2
      clear y0 y1 y2 z0 z1 z2
      go_wp2_with fail
      refine (same_any xa xb _ _ a2 b2 w2 (h2.below k2) (h4.below k2)).mono ?_
      rintro e w3 ⟨rfl, k3⟩
      go_wp2
      go_ret
      exact ⟨by rw [HD.out]; simp, hthen kk2 k3⟩
  · have q0 : (la == lb) = false := beq_eq_false_iff_ne.2 hl
    have HD := Lib.hid (hdec false _ _ (decide_eq_false hl) rfl rfl)
    clear hdec
    go_enter Try.func23, Try.ntmps23
    go_wp2
    go_ret
    exact ⟨by rw [HD.out]; rfl, by first | exact kk | exact kG⟩
theorem nsame_to {a b : Nd} (hab : a = b) (va vb : Value) (w : World) (ha : NdV w va a) (hb : NdV w vb b) (a1 : a.keys.length ≤ 1000000) (a2 : a.vals.length ≤ 1000000) :
    Calls Try.prog 23 #[va, vb] w fun e w' => e = .returned (.bool true) ∧ Below w.heap.size w w' := by
  subst hab
  have := nsame_any va vb a a w ha hb a1 a2 a1 a2
  rwa [decide_eq_true rfl] at this
end Go.Proofs.Ytiodeeliidhbgaa
