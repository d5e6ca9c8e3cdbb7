/- Decode of a pointer: its contract. -/
import Derived.Test.YtnjbhooogfonbaaPt7
namespace Go.Proofs.Ytnjbhooogfonbaa
open Go.RowKit
set_option linter.unusedSimpArgs false
set_option linter.unnecessarySimpa false
set_option linter.unusedVariables false

set_option maxHeartbeats 1000000 in
theorem pdec_form (s : List UInt8) (hs : s.length ≤ 140737488351232) (hne : s.isEmpty = false) (n : Int) (r1 : Rd) (H1 : Hid (Rd.number ⟨s, 0⟩ 1 = (n, r1))) (hn : n < 1 ∨ 2 < n) (w : World) :
    Calls Try.prog 16 #[.string (bstr s)] w fun e w' => ∃ v, e = .returned (.tuple #[ptV v ⟨[], 0, 0, []⟩, .int .i64 3]) ∧ LocsAt w'.heap.size w' v ([] : List Lc) ∧ Below w.heap.size w w' := by
  obtain ⟨i0, hi0, hz0, hz1, hz2⟩ := info_parts loc_info
  have hs' : (⟨s, 0⟩ : Rd).s.length ≤ 9223372036854775807 := Nat.le_trans hs (by decide)
  go_enter Try.func16, Try.ntmps16
  go_wp2_with fail
  obtain ⟨G, hG⟩ : ∃ g, w.heap.size = g := ⟨_, rfl⟩
  obtain ⟨w0, hw0⟩ : ∃ w0, w.alloc (.cells #[.slice none 0 0, .int .i64 0, .int .i64 0, .string ⟨#[]⟩] 24) = w0 := ⟨_, rfl⟩
  have hb0 : Blk w0 G 24 #[.slice none 0 0, .int .i64 0, .int .i64 0, .string ⟨#[]⟩] := by rw [← hw0, ← hG]; exact Blk.new _ _ _
  have k0 : Below w.heap.size w w0 := by rw [← hw0]; exact (Below.refl _ _).alloc (Nat.le_refl _) _
  have hGg := hb0.lt
  have hwg := k0.size
  have hwG : w.heap.size ≤ G := by omega
  rw [hw0, hG]
  refine (read_any s _).mono ?_
  rintro e w1 ⟨rfl, hr1, b1⟩
  obtain ⟨g, hg⟩ : ∃ g, w0.heap.size = g := ⟨_, rfl⟩
  have st1 : DecSt w G g #[.slice none 0 0, .int .i64 0, .int .i64 0, .string ⟨#[]⟩] ⟨s, 0⟩ w1 := ⟨hb0.below b1 hb0.lt, by rw [← hg]; exact hr1, k0.trans (b1.mono hwg)⟩
  rw [hg] at hGg hwg ⊢
  clear hb0 k0 hw0 b1 hr1 hg
  go_wp2_with fail
  refine (number_to H1.out g w1 st1.hr hs').mono ?_
  rintro e w2 ⟨rfl, hr2, k2⟩
  have st2 := st1.rd hGg hwg hr2 k2
  clear st1 hr2 k2
  have p2 := st2.hb
  have p4 := st2.k
  have q0 := p2.cell 0
  have q1 := p2.cell 1
  have q2 := p2.cell 2
  have q3 := p2.cell 3
  have g0 := p2.frozen 0
  have g1 := p2.frozen 1
  have g2 := p2.frozen 2
  have g3 := p2.frozen 3
  simp at q0 q1 q2 q3
  clear st2
  rcases hn with hn | hn
  · have b1 : decide (n < 1) = true := decide_eq_true hn
    go_wp2
    refine bodyPost_ret (v := .tuple #[.agg #[.slice none 0 0, .int .i64 0, .int .i64 0, .string (bstr [])], .int .i64 3]) ?h1 rfl ?h2
    case h1 => simp [results, Try.results16, go_sem, *]
    case h2 => exact ⟨_, rfl, LocsAt.nil _ _, below_at (below_at (below_at (below_at p4 (Nat.le_of_eq hG) _ _) (Nat.le_of_eq hG) _ _) (Nat.le_of_eq hG) _ _) (Nat.le_of_eq hG) _ _⟩
  · have b1 : decide (n < 1) = false := decide_eq_false (by omega)
    have b2 : decide (2 < n) = true := decide_eq_true hn
    go_wp2
    refine bodyPost_ret (v := .tuple #[.agg #[.slice none 0 0, .int .i64 0, .int .i64 0, .string (bstr [])], .int .i64 3]) ?h1 rfl ?h2
    case h1 => simp [results, Try.results16, go_sem, *]
    case h2 => exact ⟨_, rfl, LocsAt.nil _ _, below_at (below_at (below_at (below_at p4 (Nat.le_of_eq hG) _ _) (Nat.le_of_eq hG) _ _) (Nat.le_of_eq hG) _ _) (Nat.le_of_eq hG) _ _⟩

def ptZ : Pt := ⟨[], 0, 0, []⟩
def decP (s : List UInt8) : Pt × Int :=
  if s.isEmpty = false ∧ ((Rd.number ⟨s, 0⟩ 1).1 < 1 ∨ 2 < (Rd.number ⟨s, 0⟩ 1).1) then (ptZ, 3)
  else
    let lr := readLocs (Rd.number ⟨s, 0⟩ 1).1.toNat (Rd.number ⟨s, 0⟩ 1).2
    let a := lr.2.number 2
    let b := a.2.number 6
    let c := b.2.bytes 32
    if c.2.fin ≠ 0 then (ptZ, c.2.fin)
    else if ckE ⟨lr.1, a.1, b.1, c.1⟩ = 0 then (⟨lr.1, a.1, b.1, c.1⟩, 0) else (ptZ, 3)

theorem fin_err {r : Rd} (h : r.e ≠ 0) : r.fin = r.e := by unfold Rd.fin; rw [if_neg (by simp [h])]
theorem number_keep {r : Rd} (h : r.e ≠ 0) (wd : Int) : r.number wd = (0, r) := by
  obtain ⟨q, e⟩ := r
  exact Rd.number_err q e wd h
theorem bytes_keep {r : Rd} (h : r.e ≠ 0) (n : Int) : r.bytes n = ([], r) := by
  unfold Rd.bytes Rd.take
  rw [if_pos h]

theorem dec_any (s : List UInt8) (hs : s.length ≤ 140737488351232) (w : World) :
    Calls Try.prog 16 #[.string (bstr s)] w fun e w' => ∃ v, e = .returned (.tuple #[ptV v (decP s).1, .int .i64 (decP s).2]) ∧ LocsAt w'.heap.size w' v (decP s).1.locs ∧ Below w.heap.size w w' := by
  have hl1 := num_len ⟨s, 0⟩ 1
  have h0 : 0 ≤ (Rd.number ⟨s, 0⟩ 1).1 := by unfold Rd.number; simp
  unfold decP
  obtain ⟨⟨n, r1⟩, h1⟩ : ∃ x, Rd.number ⟨s, 0⟩ 1 = x := ⟨_, rfl⟩
  rw [h1] at hl1 h0 ⊢
  simp only at hl1 h0 ⊢
  by_cases hg : s.isEmpty = false ∧ (n < 1 ∨ 2 < n)
  · rw [if_pos hg]
    exact pdec_form s hs hg.1 n r1 h1 hg.2 w
  · rw [if_neg hg]
    obtain ⟨m, rfl⟩ : ∃ m : Nat, n = m := ⟨n.toNat, by omega⟩
    simp only [Int.toNat_natCast]
    obtain ⟨⟨locs, r2⟩, h2⟩ : ∃ x, readLocs m r1 = x := ⟨_, rfl⟩
    rw [h2]; simp only
    obtain ⟨⟨len, r3⟩, h3⟩ : ∃ x, r2.number 2 = x := ⟨_, rfl⟩
    rw [h3]; simp only
    obtain ⟨⟨birth, r4⟩, h4⟩ : ∃ x, r3.number 6 = x := ⟨_, rfl⟩
    rw [h4]; simp only
    obtain ⟨⟨sum, r5⟩, h5⟩ : ∃ x, r4.bytes 32 = x := ⟨_, rfl⟩
    rw [h5]; simp only
    cases hne : s.isEmpty with
    | true =>
      obtain rfl : s = [] := by simpa using hne
      have e1 : Rd.number ⟨[], 0⟩ 1 = (0, ⟨[], 2⟩) := rfl
      rw [e1] at h1
      simp only [Prod.mk.injEq] at h1
      obtain ⟨hm, rfl⟩ := h1
      obtain rfl : m = 0 := by omega
      simp only [readLocs, Prod.mk.injEq] at h2
      obtain ⟨rfl, rfl⟩ := h2
      have e3 : r3 = ⟨[], 2⟩ := by rw [number_keep (by decide)] at h3; simp only [Prod.mk.injEq] at h3; exact h3.2.symm
      subst e3
      have e4 : r4 = ⟨[], 2⟩ := by rw [number_keep (by decide)] at h4; simp only [Prod.mk.injEq] at h4; exact h4.2.symm
      subst e4
      have e5 : r5 = ⟨[], 2⟩ := by rw [bytes_keep (by decide)] at h5; simp only [Prod.mk.injEq] at h5; exact h5.2.symm
      subst e5
      rw [if_pos (by decide)]
      exact pdec_emp [] hs rfl 0 _ rfl rfl (by omega) [] _ rfl (Nat.zero_le _) len _ h3 birth _ h4 sum _ h5 2 rfl rfl w
    | false =>
      rw [hne] at hg
      have hm : 1 ≤ m ∧ m ≤ 2 := by
        have : ¬ ((m : Int) < 1 ∨ 2 < (m : Int)) := fun e => hg ⟨rfl, e⟩
        omega
      have hl : r1.s.length ≤ 140737488351232 := by omega
      by_cases hf : r5.fin = 0
      · rw [if_neg (by simp [hf])]
        rcases ckE_cases ⟨locs, len, birth, sum⟩ with hc | hc
        · rw [if_pos hc]
          exact pdec_ok s hs hne m r1 h1 hm.1 hm.2 locs r2 h2 hl len r3 h3 birth r4 h4 sum r5 h5 hf hc w
        · rw [if_neg (by rw [hc]; decide)]
          exact pdec_bad s hs hne m r1 h1 hm.1 hm.2 locs r2 h2 hl len r3 h3 birth r4 h4 sum r5 h5 hf hc w
      · rw [if_pos hf]
        exact pdec_end s hs hne m r1 h1 hm.1 hm.2 locs r2 h2 hl len r3 h3 birth r4 h4 sum r5 h5 r5.fin rfl (by simp [hf]) w

theorem dec_to {s : List UInt8} {p : Pt} {e0 : Int} (h : decP s = (p, e0)) (hs : s.length ≤ 140737488351232) (w : World) :
    Calls Try.prog 16 #[.string (bstr s)] w fun e w' => ∃ v, e = .returned (.tuple #[ptV v p, .int .i64 e0]) ∧ LocsAt w'.heap.size w' v p.locs ∧ Below w.heap.size w w' := by
  have := dec_any s hs w
  rw [h] at this
  exact this

end Go.Proofs.Ytnjbhooogfonbaa
