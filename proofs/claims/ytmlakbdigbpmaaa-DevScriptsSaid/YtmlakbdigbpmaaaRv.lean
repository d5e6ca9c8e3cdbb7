/- The reference's devices in memory; contracts of its Is and wrong: no condition but the devices' own. -/
import Derived.Test.YtmlakbdigbpmaaaDvI
namespace Go.Proofs.Ytmlakbdigbpmaaa
open Go.RowKit
set_option linter.unusedSimpArgs false
set_option linter.unnecessarySimpa false
set_option linter.unusedVariables false

/-- the reference's devices: the struct in g, its two slices in sb and gb, sectors in rows at b0 and b1, what waits in a row of its own -/
structure RvAt (w : World) (g sb gb b0 b1 : Nat) (v : Value) (d : Dv) : Prop where
  hx : ∃ c0 c1, Blk w g 45 #[.slice (some ⟨sb, 0, none⟩) 2 2, .slice (some ⟨gb, 0, none⟩) 2 2, v] ∧
    Blk w sb 56 #[.slice (some ⟨b0, 0, none⟩) d.s0.length c0, .slice (some ⟨b1, 0, none⟩) d.s1.length c1] ∧ Blk w gb 4 #[.bool d.l0, .bool d.l1] ∧
    w.ownsRow 0 9 1 (.slice (some ⟨b0, 0, none⟩) d.s0.length c0) d.s0.length (secV d.s0) ∧ w.ownsRow 0 9 1 (.slice (some ⟨b1, 0, none⟩) d.s1.length c1) d.s1.length (secV d.s1)
  hw : Owns w 66 3 v d.ws.length (wrsV d.ws)
  ne : b0 ≠ b1
def rvB (g sb gb b0 b1 : Nat) (v : Value) (k : Nat) : Prop := k = g ∨ k = sb ∨ k = gb ∨ k = b0 ∨ k = b1 ∨ zblock v = some k
section
variable {w w' : World} {g sb gb b0 b1 : Nat} {v : Value} {d : Dv}
theorem RvAt.lt (h : RvAt w g sb gb b0 b1 v d) {k : Nat} (hk : rvB g sb gb b0 b1 v k) : k < w.heap.size := by
  obtain ⟨c0, c1, hg, hs, hl, h0, h1⟩ := h.hx
  rcases hk with rfl | rfl | rfl | rfl | rfl | hk
  · exact hg.lt
  · exact hs.lt
  · exact hl.lt
  · exact row_lt h0
  · exact row_lt h1
  · exact h.hw.lt hk
theorem RvAt.moved (h : RvAt w g sb gb b0 b1 v d) (hb : ∀ k, rvB g sb gb b0 b1 v k → w'.heap[k]? = w.heap[k]?) : RvAt w' g sb gb b0 b1 v d := by
  obtain ⟨c0, c1, hg, hs, hl, h0, h1⟩ := h.hx
  exact ⟨⟨c0, c1, (hb g (.inl rfl)).trans hg, (hb sb (.inr (.inl rfl))).trans hs, (hb gb (.inr (.inr (.inl rfl)))).trans hl, row_moved h0 (fun k e => by cases e; exact hb _ (.inr (.inr (.inr (.inl rfl))))), row_moved h1 (fun k e => by cases e; exact hb _ (.inr (.inr (.inr (.inr (.inl rfl))))))⟩, h.hw.moved (fun k e => hb k (.inr (.inr (.inr (.inr (.inr e)))))), h.ne⟩
theorem RvAt.below (h : RvAt w g sb gb b0 b1 v d) (b : Below w.heap.size w w') : RvAt w' g sb gb b0 b1 v d := h.moved (fun k e => b.block k (h.lt e))
theorem RvAt.keep {B : Nat} {S : Nat → Prop} (h : RvAt w g sb gb b0 b1 v d) (hk : Keep B S w w') (hS : ∀ k, rvB g sb gb b0 b1 v k → k < B ∧ ¬ S k) : RvAt w' g sb gb b0 b1 v d := h.moved (fun k e => hk.block k (hS k e).1 (hS k e).2)
theorem RvAt.drew (h : RvAt w g sb gb b0 b1 v d) : RvAt w.drew g sb gb b0 b1 v d := h.moved (fun _ _ => rfl)
theorem RvAt.alloc (h : RvAt w g sb gb b0 b1 v d) (o : Obj) : RvAt (w.alloc o) g sb gb b0 b1 v d := h.below ((Below.refl _ _).alloc (Nat.le_refl _) o)
theorem RvAt.form (h : RvAt w g sb gb b0 b1 v d) : ∃ A c, v = .slice A d.ws.length c ∧ d.ws.length ≤ c ∧ c ≤ maxLen := h.hw.form
theorem RvAt.cell2 (h : RvAt w g sb gb b0 b1 v d) : w.cell? ⟨g, 2, none⟩ = some v ∧ w.frozen? ⟨g, 2, none⟩ = false := by
  obtain ⟨c0, c1, hg, hs, hl, h0, h1⟩ := h.hx
  have y := hg.cell 2
  simp at y
  exact ⟨y, hg.frozen 2⟩
/-- the blocks are not one another: their types tell -/
theorem RvAt.apart (h : RvAt w g sb gb b0 b1 v d) : (g ≠ sb ∧ g ≠ gb ∧ g ≠ b0 ∧ g ≠ b1 ∧ zblock v ≠ some g) ∧ (sb ≠ gb ∧ sb ≠ b0 ∧ sb ≠ b1 ∧ zblock v ≠ some sb) ∧ (gb ≠ b0 ∧ gb ≠ b1 ∧ zblock v ≠ some gb) ∧ zblock v ≠ some b0 ∧ zblock v ≠ some b1 := by
  obtain ⟨c0, c1, hg, hs, hl, h0, h1⟩ := h.hx
  obtain ⟨u0, k0⟩ := row_blk h0
  obtain ⟨u1, k1⟩ := row_blk h1
  refine ⟨⟨?_, ?_, ?_, ?_, h.hw.ne hg (by decide)⟩, ⟨?_, ?_, ?_, h.hw.ne hs (by decide)⟩, ⟨?_, ?_, h.hw.ne hl (by decide)⟩, h.hw.ne k0 (by decide), h.hw.ne k1 (by decide)⟩
  · rintro rfl; exact absurd (hg.type_eq' hs) (by decide)
  · rintro rfl; exact absurd (hg.type_eq' hl) (by decide)
  · rintro rfl; exact absurd (hg.type_eq' k0) (by decide)
  · rintro rfl; exact absurd (hg.type_eq' k1) (by decide)
  · rintro rfl; exact absurd (hs.type_eq' hl) (by decide)
  · rintro rfl; exact absurd (hs.type_eq' k0) (by decide)
  · rintro rfl; exact absurd (hs.type_eq' k1) (by decide)
  · rintro rfl; exact absurd (hl.type_eq' k0) (by decide)
  · rintro rfl; exact absurd (hl.type_eq' k1) (by decide)
/-- another list waits -/
theorem RvAt.setWs (h : RvAt w g sb gb b0 b1 v d) (u : Value) (l : List Wr) (hu : Owns w 66 3 u l.length (wrsV l)) : RvAt (w.setCell ⟨g, 2, none⟩ u) g sb gb b0 b1 u { d with ws := l } := by
  obtain ⟨⟨n1, n2, n3, n4, n5⟩, -, -, -, -⟩ := h.apart
  obtain ⟨c0, c1, hg, hs, hl, h0, h1⟩ := h.hx
  refine ⟨⟨c0, c1, ?_, hs.far (p := ⟨g, 2, none⟩) (fun e => n1 e.symm) _, hl.far (p := ⟨g, 2, none⟩) (fun e => n2 e.symm) _, row_set h0 (by intro e; cases e; exact n3 rfl) _, row_set h1 (by intro e; cases e; exact n4 rfl) _⟩, hu.set (hu.ne hg (by decide)) _, h.ne⟩
  have := hg.set_ 2 u
  simpa using this
end
def hasB (d : Dv) (l : Lc) : Bool := isB l.dev && (decide (0 ≤ l.pos) && decide (l.pos < (d.sec l.dev).length))
theorem may_of_has (d : Dv) (l : Lc) (s : List UInt8) : mayE d l s = if !hasB d l || decide (1024 < s.length) then 1 else if d.gone l.dev then 5 else 0 := by
  unfold mayE hasB
  congr 1
  cases isB l.dev with
  | false => simp
  | true =>
    simp only [Bool.not_true, Bool.false_or, Bool.true_and]
    by_cases h1 : l.pos < 0
    · have : ¬ (0 ≤ l.pos) := by omega
      simp [h1, this]
    · have : 0 ≤ l.pos := by omega
      by_cases h2 : ((d.sec l.dev).length : Int) ≤ l.pos
      · have : ¬ (l.pos < ((d.sec l.dev).length : Int)) := by omega
        simp [h1, h2, this]
      · have : l.pos < ((d.sec l.dev).length : Int) := by omega
        simp [h1, h2, this, *]

set_option maxHeartbeats 4000000 in
theorem ris_any (g sb gb b0 b1 : Nat) (v : Value) (d : Dv) (l : Lc) (w : World) (h : RvAt w g sb gb b0 b1 v d) :
    Calls Try.prog 45 #[.pointer (some ⟨g, 0, none⟩), .agg #[.int .i64 l.dev, .int .i64 l.pos]] w fun e w' => e = .returned (.bool (hasB d l)) ∧ Below w.heap.size w w' := by
  obtain ⟨dev, pos⟩ := l
  simp only
  obtain ⟨c0, c1, hg, hs, hl, h0, h1⟩ := h.hx
  have a0 := fun o => (hg.alloc o).cell 0
  have s0 := fun o => (hs.alloc o).cell 0
  have s1 := fun o => (hs.alloc o).cell 1
  simp at a0 s0 s1
  have hbel : ∀ o n, Below w.heap.size w ((w.alloc o).drewN n) := fun o n => ((Below.refl _ _).alloc (Nat.le_refl _) o).dN n
  clear h hg hs hl h0 h1
  by_cases d0 : dev = 0
  · subst d0
    by_cases t1 : 0 ≤ pos
    · by_cases t2 : pos < (d.s0.length : Int)
      · have q1 : decide ((0 : Int) ≤ pos) = true := decide_eq_true t1
        have q2 : decide (pos < (d.s0.length : Int)) = true := decide_eq_true t2
        rw [show hasB d ⟨0, pos⟩ = true by simp [hasB, isB, Dv.sec, t1, t2]]
        go_enter Try.func45, Try.ntmps45
        go_wp2_with fail
        go_quiet (fail)
        go_wp2
        go_ret
        exact ⟨rfl, hbel _ _⟩
      · have q1 : decide ((0 : Int) ≤ pos) = true := decide_eq_true t1
        have q2 : decide (pos < (d.s0.length : Int)) = false := decide_eq_false t2
        rw [show hasB d ⟨0, pos⟩ = false by simp [hasB, isB, Dv.sec, t1, t2]]
        go_enter Try.func45, Try.ntmps45
        go_wp2_with fail
        go_quiet (fail)
        go_wp2
        go_ret
        exact ⟨rfl, hbel _ _⟩
    · have q1 : decide ((0 : Int) ≤ pos) = false := decide_eq_false t1
      rw [show hasB d ⟨0, pos⟩ = false by simp [hasB, isB, Dv.sec, t1]]
      go_enter Try.func45, Try.ntmps45
      go_wp2_with fail
      go_quiet (fail)
      go_wp2
      go_ret
      exact ⟨rfl, hbel _ _⟩
  · by_cases d1 : dev = 1
    · subst d1
      by_cases t1 : 0 ≤ pos
      · by_cases t2 : pos < (d.s1.length : Int)
        · have q1 : decide ((0 : Int) ≤ pos) = true := decide_eq_true t1
          have q2 : decide (pos < (d.s1.length : Int)) = true := decide_eq_true t2
          rw [show hasB d ⟨1, pos⟩ = true by simp [hasB, isB, Dv.sec, t1, t2]]
          go_enter Try.func45, Try.ntmps45
          go_wp2_with fail
          go_quiet (fail)
          go_wp2
          go_ret
          exact ⟨rfl, hbel _ _⟩
        · have q1 : decide ((0 : Int) ≤ pos) = true := decide_eq_true t1
          have q2 : decide (pos < (d.s1.length : Int)) = false := decide_eq_false t2
          rw [show hasB d ⟨1, pos⟩ = false by simp [hasB, isB, Dv.sec, t1, t2]]
          go_enter Try.func45, Try.ntmps45
          go_wp2_with fail
          go_quiet (fail)
          go_wp2
          go_ret
          exact ⟨rfl, hbel _ _⟩
      · have q1 : decide ((0 : Int) ≤ pos) = false := decide_eq_false t1
        rw [show hasB d ⟨1, pos⟩ = false by simp [hasB, isB, Dv.sec, t1]]
        go_enter Try.func45, Try.ntmps45
        go_wp2_with fail
        go_quiet (fail)
        go_wp2
        go_ret
        exact ⟨rfl, hbel _ _⟩
    · have e1 : (dev == 0) = false := by simpa using d0
      have e2 : (dev == 1) = false := by simpa using d1
      rw [show hasB d ⟨dev, pos⟩ = false by simp [hasB, isB, e1, e2]]
      go_enter Try.func45, Try.ntmps45
      go_wp2_with fail
      go_quiet (fail)
      go_wp2
      go_ret
      exact ⟨rfl, hbel _ _⟩

theorem ris_to {d : Dv} {l : Lc} {b : Bool} (hb : hasB d l = b) (g sb gb b0 b1 : Nat) (v : Value) (w : World) (h : RvAt w g sb gb b0 b1 v d) :
    Calls Try.prog 45 #[.pointer (some ⟨g, 0, none⟩), .agg #[.int .i64 l.dev, .int .i64 l.pos]] w fun e w' => e = .returned (.bool b) ∧ Below w.heap.size w w' := by subst hb; exact ris_any g sb gb b0 b1 v d l w h

end Go.Proofs.Ytmlakbdigbpmaaa
