/- slices.Clone at strings; a copied node: contracts. -/
import Derived.Test.YtiodeeliidhbgaaNd6
import Derived.Test.YtiodeeliidhbgaaSp
namespace Go.Proofs.Ytiodeeliidhbgaa
open Go Go.RowKit
set_option linter.unusedSimpArgs false
set_option linter.unnecessarySimpa false
set_option linter.unusedVariables false

theorem ss_src {w w' : World} {A : Option Addr} {n c : Nat} {l : List (List UInt8)} (h : SsAt w (.slice A n c) l) (hb : Below w.heap.size w w') : 0 < n → ∃ ad, A = some ad ∧ ∀ j u, (secV l)[j]? = some u → w'.cell? (ad.add j) = some u := by
  intro hn
  have hl : n = l.length := by
    obtain ⟨_, _, e, _⟩ := h
    cases e
    rfl
  obtain ⟨ad, rfl, _⟩ := h.cell hb (j := 0) (by omega)
  refine ⟨ad, rfl, fun j u hj => ?_⟩
  have hjl : j < l.length := by
    rcases Nat.lt_or_ge j l.length with h | h
    · exact h
    · rw [List.getElem?_eq_none (by simpa [secV] using h)] at hj
      cases hj
  obtain ⟨ad', e, hc⟩ := h.cell hb hjl
  cases e
  rw [hc, ← hj]
  simp [secV, List.getD_eq_getElem?_getD, hjl]
theorem secV_one (l : List (List UInt8)) : ∀ u ∈ secV l, u.oneCell' = true := by
  intro u hu
  obtain ⟨_, _, rfl⟩ := List.mem_map.1 hu
  rfl
theorem secV_len (l : List (List UInt8)) : (secV l).length = l.length := by simp [secV]

set_option maxHeartbeats 1000000 in
theorem clone_any (v : Value) (l : List (List UInt8)) (hn : l.length ≤ 1000000) (w : World) (h : SsAt w v l) :
    Calls Try.prog 62 #[v] w fun e w' => ∃ u, e = .returned u ∧ w'.ownsRow w.heap.size 9 1 u l.length (secV l) ∧ Below w.heap.size w w' := by
  obtain ⟨A, c, rfl⟩ := h.form
  have hq : ∀ w n, (binOp .eql 22 (.slice A n c) (.slice none 0 0)).run Try.prog w = .ok (.bool A.isNone) w := fun w n => Lib.run_eql_slice_nil w 22 9 _ _ _ _ _ Try.underlying22
  cases A with
  | none =>
    have hl : l = [] := by
      rcases l with _ | ⟨x, l⟩
      · rfl
      · obtain ⟨_, e, _⟩ := h.cell (Below.refl _ _) (j := 0) (by simp)
        cases e
    subst hl
    go_enter Try.func62, Try.ntmps62
    go_wp2
    go_ret
    exact ⟨_, rfl, World.ownsRow_nil _ _ _ _, Below.refl _ _⟩
  | some ad =>
    have F1 := Lib.hid (show 0 + l.length ≤ maxLen by unfold maxLen; omega)
    have F2 := Lib.hid (show (0 + l.length) * 16 ≤ 140737488355328 by omega)
    have hba : Below w.heap.size w (w.alloc (.cells #[] 9)) := (Below.refl _ _).alloc (Nat.le_refl _) _
    have HS := Lib.hid (ss_src h hba)
    have HR := Lib.hid (World.ownsRow_made (e := 9) (size := 1) w #[] 0 (Nat.le_refl _) (Nat.zero_le _) rfl)
    have HL := Lib.hid (show (secV l).length = l.length * 1 by rw [secV_len, Nat.mul_one])
    clear h
    go_enter Try.func62, Try.ntmps62
    go_wp2_with (at_builtin; refine wpList_spread (P := Try.prog) _ rfl _ _ 22 rfl w.heap.size 9 (.string ⟨#[]⟩) 1 16 Try.underlying22 str_info rfl (by decide) _ 0 [] rfl HR.out (some ad) l.length c (secV l) rfl HL.out HS.out (secV_one l) F1.out F2.out (by simp) ?_)
    intro u w1 r1 _ b1 _
    go_wp2
    go_ret
    exact ⟨u, rfl, by simpa using r1, (by simpa using hba.trans b1)⟩

/-- a node's value whose lists are rows of the call's own, from B on -/
def NdOwn (w : World) (B : Nat) (v : Value) (n : Nd) : Prop := ∃ vk vv, v = .agg #[.bool n.leaf, vk, vv] ∧ w.ownsRow B 9 1 vk n.keys.length (secV n.keys) ∧ w.ownsRow B 9 1 vv n.vals.length (secV n.vals) ∧ (∀ k, vk.ownBlock = some k → vv.ownBlock ≠ some k)
set_option maxHeartbeats 2000000 in
theorem copied_any (v : Value) (n : Nd) (w : World) (h : NdV w v n) (hk : n.keys.length ≤ 1000000) (hv : n.vals.length ≤ 1000000) :
    Calls Try.prog 52 #[v] w fun e w' => ∃ u, e = .returned u ∧ NdOwn w' w.heap.size u n ∧ Below w.heap.size w w' := by
  obtain ⟨vk, vv, rfl, h1, h2⟩ := h
  obtain ⟨A, c, rfl⟩ := h1.form
  obtain ⟨C, d, rfl⟩ := h2.form
  obtain ⟨leaf, ks, vs⟩ := n
  simp only at h1 h2 hk hv ⊢
  go_enter Try.func52, Try.ntmps52
  go_wp2_with fail
  have p1 := Blk.new (w.alloc (.cells #[.bool leaf, .slice A ks.length c, .slice C vs.length d] 30)) 30 #[.bool false, .slice none 0 0, .slice none 0 0]
  have p0 := (Blk.new w 30 #[.bool leaf, .slice A ks.length c, .slice C vs.length d]).alloc (.cells #[.bool false, .slice none 0 0, .slice none 0 0] 30)
  have k0 : Below w.heap.size w ((w.alloc (.cells #[.bool leaf, .slice A ks.length c, .slice C vs.length d] 30)).alloc (.cells #[.bool false, .slice none 0 0, .slice none 0 0] 30)) := ((Below.refl _ _).alloc (Nat.le_refl _) _).alloc (by simp) _
  have e1 : (w.alloc (.cells #[.bool leaf, .slice A ks.length c, .slice C vs.length d] 30)).heap.size = w.heap.size + 1 := by simp
  rw [e1] at p1
  obtain ⟨w0, hw0⟩ : ∃ x, (w.alloc (.cells #[.bool leaf, .slice A ks.length c, .slice C vs.length d] 30)).alloc (.cells #[.bool false, .slice none 0 0, .slice none 0 0] 30) = x := ⟨_, rfl⟩
  rw [hw0] at p0 p1 k0 ⊢
  obtain ⟨G, hG⟩ : ∃ x, w.heap.size = x := ⟨_, rfl⟩
  rw [hG] at p0 p1 ⊢
  have hkv := h1.below k0
  have hvv := h2.below k0
  have kG : Below G w w0 := hG ▸ k0
  have y0 := p0.cell 0
  have y1 := p0.cell 1
  have y2 := p0.cell 2
  simp at y0 y1 y2
  clear hw0 e1 h1 h2
  go_region_law (first
    | (go_simp; go_at_call 62; (with_reducible refine (clone_any (.slice C vs.length d) vs hv w1 hv1).mono ?_); rintro e w2 ⟨u2, rfl, r2, k2⟩; obtain ⟨A2, c2, rfl⟩ := orow_form r2; have r1' := row_below r1 k2; have b2 := q0.below k2 q0.lt; have b3 := (p1.drew.below k1 p1.drew.lt).below k2 (p1.drew.below k1 p1.drew.lt).lt; have z1 := b2.cell 1; have z2 := b2.cell 2; have f1 := b2.frozen 1; have f2 := b2.frozen 2; simp at z1 z2; dsimp only)
    | (go_simp; go_at_call 62; (with_reducible refine (clone_any (.slice A ks.length c) ks hk _ hkv.drew).mono ?_); rintro e w1 ⟨u1, rfl, r1, k1⟩; obtain ⟨A1, c1, rfl⟩ := orow_form r1; have hv1 := hvv.drew.below k1; have q0 := p0.drew.below k1 p0.drew.lt; have q2 := q0.cell 2; simp at q2; dsimp only))
  all_goals
    have kk2 : Below w.heap.size w w2 := hthen (hthen k0.drew k1) k2
    have s1 := (hthen k0.drew k1).size
    have s0 := k0.size
    obtain ⟨w3, hw3⟩ : ∃ x, (w2.setCell ⟨G, 1, none⟩ (.slice A1 ks.length c1)).setCell ⟨G, 2, none⟩ (.slice A2 vs.length c2) = x := ⟨_, rfl⟩
    have x0 : Blk w3 G 30 #[.bool leaf, .slice A1 ks.length c1, .slice A2 vs.length c2] := by
      have := (b2.set_ 1 (.slice A1 ks.length c1)).set_ 2 (.slice A2 vs.length c2)
      rw [← hw3]
      simpa using this
    have x1 : Blk w3 (G + 1) 30 #[.bool false, .slice none 0 0, .slice none 0 0] := by
      rw [← hw3]
      exact (b3.far (p := ⟨G, 1, none⟩) (by simp) _).far (p := ⟨G, 2, none⟩) (by simp) _
    have n1 : (Value.slice A1 ks.length c1).ownBlock ≠ some G := row_ne r1' b2 (by decide)
    have n2 : (Value.slice A2 vs.length c2).ownBlock ≠ some G := row_ne r2 b2 (by decide)
    have m1 : (Value.slice A1 ks.length c1).ownBlock ≠ some (G + 1) := row_ne r1' b3 (by decide)
    have m2 : (Value.slice A2 vs.length c2).ownBlock ≠ some (G + 1) := row_ne r2 b3 (by decide)
    have o1 := row_set (i := 2) (row_set (i := 1) r1' n1 (.slice A1 ks.length c1)) n1 (.slice A2 vs.length c2)
    have o2 := row_set (i := 2) (row_set (i := 1) r2 n2 (.slice A1 ks.length c1)) n2 (.slice A2 vs.length c2)
    have k3 : Below w.heap.size w w3 := by
      rw [← hw3]
      exact below_at (below_at kk2 (Nat.le_of_eq hG) _ _) (Nat.le_of_eq hG) _ _
    rw [hw3] at o1 o2 ⊢
    have t0 := x0.cell 0
    have t1 := x0.cell 1
    have t2 := x0.cell 2
    have g0 := x1.frozen 0
    have g1 := x1.frozen 1
    have g2 := x1.frozen 2
    have t3 := x1.cell 0
    have t4 := x1.cell 1
    have t5 := x1.cell 2
    simp at t0 t1 t2 t3 t4 t5
    have hne : ∀ k, (Value.slice A1 ks.length c1).ownBlock = some k → (Value.slice A2 vs.length c2).ownBlock ≠ some k := by
      intro k e1 e2
      have := (r2.lt k e2).1
      have := (r1.lt k e1).2
      omega
    clear y0 y1 y2 q2 z1 z2 f1 f2 hw3
    go_wp2
    have o1' := row_set (i := 2) (row_set (i := 1) (row_set (i := 0) o1 m1 (.bool leaf)) m1 (.slice A1 ks.length c1)) m1 (.slice A2 vs.length c2)
    have o2' := row_set (i := 2) (row_set (i := 1) (row_set (i := 0) o2 m2 (.bool leaf)) m2 (.slice A1 ks.length c1)) m2 (.slice A2 vs.length c2)
    have x2 : Blk (((w3.setCell ⟨G + 1, 0, none⟩ (.bool leaf)).setCell ⟨G + 1, 1, none⟩ (.slice A1 ks.length c1)).setCell ⟨G + 1, 2, none⟩ (.slice A2 vs.length c2)) (G + 1) 30 #[.bool leaf, .slice A1 ks.length c1, .slice A2 vs.length c2] := by
      have := ((x1.set_ 0 (.bool leaf)).set_ 1 (.slice A1 ks.length c1)).set_ 2 (.slice A2 vs.length c2)
      simpa using this
    have v0 := x2.cell 0
    have v1 := x2.cell 1
    have v2 := x2.cell 2
    simp at v0 v1 v2
    refine bodyPost_ret (v := .agg #[.bool leaf, .slice A1 ks.length c1, .slice A2 vs.length c2]) ?h1 rfl ?h2
    case h1 => simp [results, Try.results52, go_sem, v0, v1, v2]
    case h2 =>
      have hle : w.heap.size ≤ G + 1 := by omega
      have l1 : w.heap.size ≤ w0.drew.heap.size := s0
      exact ⟨_, rfl, ⟨_, _, rfl, row_base o1' l1, row_base o2' (Nat.le_trans l1 k1.size), hne⟩, below_at (below_at (below_at k3 hle _ _) hle _ _) hle _ _⟩
end Go.Proofs.Ytiodeeliidhbgaa
