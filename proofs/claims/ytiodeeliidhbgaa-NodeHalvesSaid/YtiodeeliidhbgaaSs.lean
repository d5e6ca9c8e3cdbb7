/- Slices of strings that are read; Same of the reference 01: contract. -/
import Derived.Test.YtiodeeliidhbgaaOwn
import Derived.Test.YtiodeeliidhbgaaStl
namespace Go.Proofs.Ytiodeeliidhbgaa
open Go Go.RowKit
set_option linter.unusedSimpArgs false
set_option linter.unnecessarySimpa false
set_option linter.unusedVariables false

def secV (l : List (List UInt8)) : List Value := l.map fun s => Value.string (bstr s)
theorem hthen {w w1 w2 : World} (h : Below w.heap.size w w1) (k : Below w1.heap.size w1 w2) : Below w.heap.size w w2 :=
  h.trans ((Keep.of_below (S := fun _ => False) k).mono (S' := fun _ => False) h.size (fun _ _ h => h)).below
/-- a slice of these texts, to be read -/
def SsAt (w : World) (v : Value) (l : List (List UInt8)) : Prop := ∃ A c, v = .slice A l.length c ∧ ∀ j, j < l.length → ∃ ad : Addr, A = some ad ∧ w.cell? (ad.add j) = some (.string (bstr (l.getD j [])))
theorem ss_own {w : World} {base n : Nat} {v : Value} {l : List (List UInt8)} (h : w.ownsRow base 9 1 v n (secV l)) : SsAt w v l := by
  have hl : l.length = n := by have := h.1; simpa [secV] using this
  have h0 := h
  rcases h.2 with ⟨rfl, hn⟩ | ⟨g, cap, cur, rfl, hg, hc, hr⟩
  · exact ⟨none, 0, by rw [hl, hn], fun j hj => by omega⟩
  · refine ⟨some ⟨g, 0, none⟩, cap, by rw [hl], fun j hj => ⟨_, rfl, ?_⟩⟩
    have : (⟨g, 0, none⟩ : Addr).add j = ⟨g, j, none⟩ := by unfold Addr.add; split <;> simp_all
    rw [this, World.ownsRow.cellAt h0 j (by omega)]
    simp [secV, List.getD, hj]
theorem acell_lt {w : World} {p : Addr} {v : Value} (h : w.cell? p = some v) : p.block < w.heap.size := by
  refine Nat.lt_of_not_le fun e => ?_
  have : w.heap[p.block]? = none := by rw [Array.getElem?_eq_none]; exact e
  simp [World.cell?, this] at h
theorem SsAt.below {w w' : World} {v : Value} {l : List (List UInt8)} (h : SsAt w v l) (hb : Below w.heap.size w w') : SsAt w' v l := by
  obtain ⟨A, c, rfl, hA⟩ := h
  refine ⟨A, c, rfl, fun j hj => ?_⟩
  obtain ⟨ad, rfl, hc⟩ := hA j hj
  exact ⟨ad, rfl, by rw [hb.cell (acell_lt hc)]; exact hc⟩
theorem SsAt.drew {w : World} {v : Value} {l : List (List UInt8)} (h : SsAt w v l) : SsAt w.drew v l := h.below (Below.refl _ _).drew
theorem bstr_eq (a b : List UInt8) : (bstr a = bstr b) ↔ a = b := by
  constructor
  · intro h
    simpa [bstr] using h
  · intro h; rw [h]
set_option maxHeartbeats 1000000 in
theorem same_any (a b : List (List UInt8)) (va vb : Value) (ha : a.length ≤ 1000000) (hb : b.length ≤ 1000000) (w : World) (h1 : SsAt w va a) (h2 : SsAt w vb b) :
    Calls Try.prog 51 #[va, vb] w fun e w' => e = .returned (.bool (decide (a = b))) ∧ Below w.heap.size w w' := by
  obtain ⟨A, c, rfl, hA⟩ := h1
  obtain ⟨B, d, rfl, hB⟩ := h2
  by_cases hl : a.length = b.length
  · have q0 : ((a.length : Int) != b.length) = false := bne_eq_false_iff_eq.2 (by omega)
    have HL := Lib.hid hl
    rw [← hl] at hB ⊢
    rw [← hl] at q0
    obtain ⟨n, hn⟩ : ∃ n, a.length = n := ⟨_, rfl⟩
    rw [hn] at hA hB ha q0 ⊢
    have hnb : b.length = n := by rw [← hl, hn]
    have HA := Lib.hid (fun (w' : World) (h : Below w.heap.size w w') (j : Nat) (hj : j < n) => by
      obtain ⟨ad, e, hc⟩ := hA j hj
      exact (⟨ad, e, by rw [h.cell (acell_lt hc)]; exact hc⟩ : ∃ ad : Addr, A = some ad ∧ w'.cell? (ad.add j) = some (.string (bstr (a.getD j [])))))
    have HB := Lib.hid (fun (w' : World) (h : Below w.heap.size w w') (j : Nat) (hj : j < n) => by
      obtain ⟨ad, e, hc⟩ := hB j hj
      exact (⟨ad, e, by rw [h.cell (acell_lt hc)]; exact hc⟩ : ∃ ad : Addr, B = some ad ∧ w'.cell? (ad.add j) = some (.string (bstr (b.getD j [])))))
    clear hA hB
    go_enter Try.func51, Try.ntmps51
    go_wp2_with fail
    go_loopw [5] (fun i wr => ∃ j : Nat, j ≤ n ∧ i = .int .i64 j ∧ a.take j = b.take j ∧ Below w.heap.size w wr) (fun i _ => n - (intOf i).toNat)
    case atStart => exact ⟨0, Nat.zero_le _, rfl, rfl, Below.refl _ _⟩
    case round =>
      obtain ⟨j, hj, rfl, htk, hbl⟩ := hrel
      by_cases hlt : j < n
      · have q1 : decide ((j : Int) < n) = true := decide_eq_true (by omega)
        have T0 : (0 : Int) ≤ j := by omega
        have T1 : (j : Int) < n := by omega
        obtain ⟨ad, rfl, ca⟩ := HA.out wr hbl j hlt
        obtain ⟨bd, rfl, cb⟩ := HB.out wr hbl j hlt
        have ea : a.take (j + 1) = a.take j ++ [a.getD j []] := by rw [List.take_succ_eq_append_getElem (by omega)]; simp [List.getD, show j < a.length by omega]
        have eb : b.take (j + 1) = b.take j ++ [b.getD j []] := by rw [List.take_succ_eq_append_getElem (by omega)]; simp [List.getD, show j < b.length by omega]
        obtain ⟨X, hX⟩ : ∃ y, a.getD j [] = y := ⟨_, rfl⟩
        obtain ⟨Y, hY⟩ : ∃ y, b.getD j [] = y := ⟨_, rfl⟩
        rw [hX] at ca ea
        rw [hY] at cb eb
        by_cases hxy : X = Y
        · subst hxy
          have hnx : a.take (j + 1) = b.take (j + 1) := by rw [ea, eb, htk]
          have HNX := Lib.hid hnx
          have q2 : (X != X) = false := by simp
          clear ea eb htk hX hY hnx
          go_wp2_with fail
          refine wp_region_quiet (by kernel_rfl) (by kernel_rfl) ?_
          repeat still_step
          refine wpStill_nil ?_
          go_wp2
          go_round
          case rel => exact ⟨j + 1, by omega, by go_num, HNX.out, hbl.drew⟩
          case measure => simp [intOf] <;> omega
        · have hne : a ≠ b := by
            intro e
            subst e
            exact hxy (hX.symm.trans hY)
          have q2 : (X != Y) = true := bne_iff_ne.2 hxy
          have q3 : (X == Y) = false := beq_eq_false_iff_ne.2 hxy
          have HD := Lib.hid (decide_eq_false hne)
          clear ea eb htk hX hY hne
          go_wp2_with fail
          refine wp_region_quiet (by kernel_rfl) (by kernel_rfl) ?_
          repeat still_step
          refine wpStill_nil ?_
          go_wp2
          go_ret
          exact ⟨by rw [HD.out]; rfl, hbl.drew⟩
      · have q1 : decide ((j : Int) < n) = false := decide_eq_false (by omega)
        have he : a = b := by
          rw [List.take_of_length_le (by omega), List.take_of_length_le (by omega)] at htk
          exact htk
        have HD := Lib.hid (decide_eq_true he)
        clear htk he
        go_wp2
        go_ret
        exact ⟨by rw [HD.out]; rfl, hbl⟩
  · have q0 : ((a.length : Int) != b.length) = true := bne_iff_ne.2 (by omega)
    have hne : a ≠ b := fun e => hl (by rw [e])
    have HD := Lib.hid (decide_eq_false hne)
    clear hne
    go_enter Try.func51, Try.ntmps51
    go_wp2
    go_ret
    exact ⟨by rw [HD.out]; rfl, Below.refl _ _⟩

end Go.Proofs.Ytiodeeliidhbgaa
