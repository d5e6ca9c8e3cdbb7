/- Several texts in one. Package dev: two devices in memory; contracts of is, Size, Lost: no condition but the devices' own. Package dev: the contract of may. Package dev: put: contracts. Package dev: Write: contracts. Package dev: New: its contracts. Package dev: put, at either device; Flush's closure: contracts. Package dev: done and Flush: contracts. Package dev: Crash: contracts. Package dev: Crash: its contract. Package dev: Waits: its contract. Package dev: the closures of Lose and Spoil: contracts. Package dev: slices.IndexFunc at the closures of Lose and Spoil: contracts. Package dev: slices.DeleteFunc at the closures of Lose and Spoil: contracts. Package dev: forget, Lose: contracts. Package dev: slices.Clone, Copy: contracts. Package dev: slices.Backward of writes: what it hands to a loop. Package dev: Read: its contract. Package dev: what its functions do, in one form: devices with the blocks that are theirs. Package dev: its contracts as the walks of laws use them; live: it answers true. -/
import Derived.Test.YtmdjbmhjnajpgaaDoorOwn
import Derived.Laws.OwnMore
import Derived.RangeFuncNested
import Derived.RangeFuncBound
import Derived.RangeFuncCalls
import Derived.RangeFuncLeaves
import Derived.RangeFuncBox
import Derived.Shelf.Abstract
import Derived.Shelf.RegionOpen
import Derived.OwnWalkIn
import Derived.TacticsInMore
import Derived.LoopNIn
import Derived.LoopIn
namespace Go.Proofs.YtmdjbmhjnajpgaaDoor
open Go.RowKit
set_option linter.unusedSimpArgs false
set_option linter.unnecessarySimpa false
set_option linter.unusedVariables false

structure Lc where
  dev : Int
  pos : Int
deriving DecidableEq
/-- a write that waits -/
structure Wr where
  loc : Lc
  text : List UInt8
deriving DecidableEq
def wrV (x : Wr) : List Value := [.int .i64 x.loc.dev, .int .i64 x.loc.pos, .string (bstr x.text)]
def wrsV (l : List Wr) : List Value := l.flatMap wrV
/-- the cells of a device's sectors -/
def secV (l : List (List UInt8)) : List Value := l.map fun s => Value.string (bstr s)
/-- two devices -/
structure Dv where
  s0 : List (List UInt8)
  s1 : List (List UInt8)
  l0 : Bool
  l1 : Bool
  ws : List Wr
/-- devices in memory: the struct in block g, sectors in rows at b0 and b1, what waits in a row of its own -/
structure DvAt (w : World) (g b0 b1 : Nat) (v : Value) (d : Dv) : Prop where
  hx : ∃ c0 c1, Blk w g 60 #[.slice (some ⟨b0, 0, none⟩) d.s0.length c0, .slice (some ⟨b1, 0, none⟩) d.s1.length c1, .bool d.l0, .bool d.l1, v] ∧
    w.ownsRow 0 9 1 (.slice (some ⟨b0, 0, none⟩) d.s0.length c0) d.s0.length (secV d.s0) ∧ w.ownsRow 0 9 1 (.slice (some ⟨b1, 0, none⟩) d.s1.length c1) d.s1.length (secV d.s1)
  hw : Owns w 67 3 v d.ws.length (wrsV d.ws)
  ne : b0 ≠ b1
/-- the blocks of devices -/
def dvB (g b0 b1 : Nat) (v : Value) (k : Nat) : Prop := k = g ∨ k = b0 ∨ k = b1 ∨ zblock v = some k

theorem secV_get (l : List (List UInt8)) (i : Nat) (h : i < l.length) : (secV l)[i]? = some (.string (bstr l[i])) := by
  simp [secV, h]
theorem secV_set (l : List (List UInt8)) (i : Nat) (s : List UInt8) : (secV l).set i (.string (bstr s)) = secV (l.set i s) := by
  simp [secV, List.map_set]
theorem wrsV_snoc (l : List Wr) (x : Wr) : wrsV (l ++ [x]) = wrsV l ++ wrV x := by simp [wrsV]
theorem wr_info : (Tryd.prog.info? 67).map (fun i => (i.zero, i.size, i.bytes)) = some (some (.agg #[.int .i64 0, .int .i64 0, .string ⟨#[]⟩]), 3, 32) := by kernel_rfl
theorem wrsV_get : ∀ (l : List Wr) (i : Nat) (h : i < l.length), (wrsV l)[i * 3]? = some (.int .i64 l[i].loc.dev) ∧ (wrsV l)[i * 3 + 1]? = some (.int .i64 l[i].loc.pos) ∧ (wrsV l)[i * 3 + 2]? = some (.string (bstr l[i].text))
  | a :: l, 0, _ => by simp [wrsV, wrV]
  | a :: l, i + 1, h => by
    have := wrsV_get l i (by simpa using h)
    have e : wrsV (a :: l) = .int .i64 a.loc.dev :: .int .i64 a.loc.pos :: .string (bstr a.text) :: wrsV l := rfl
    rw [e, show (i + 1) * 3 = i * 3 + 1 + 1 + 1 by omega]
    simpa using this

section
variable {w w' : World} {g b0 b1 : Nat} {v : Value} {d : Dv}
theorem DvAt.lt (h : DvAt w g b0 b1 v d) {k : Nat} (hk : dvB g b0 b1 v k) : k < w.heap.size := by
  obtain ⟨c0, c1, hg, h0, h1⟩ := h.hx
  rcases hk with rfl | rfl | rfl | hk
  · exact hg.lt
  · exact row_lt h0
  · exact row_lt h1
  · exact h.hw.lt hk
theorem DvAt.moved (h : DvAt w g b0 b1 v d) (hb : ∀ k, dvB g b0 b1 v k → w'.heap[k]? = w.heap[k]?) : DvAt w' g b0 b1 v d := by
  obtain ⟨c0, c1, hg, h0, h1⟩ := h.hx
  exact ⟨⟨c0, c1, (hb g (.inl rfl)).trans hg, row_moved h0 (fun k e => by cases e; exact hb _ (.inr (.inl rfl))), row_moved h1 (fun k e => by cases e; exact hb _ (.inr (.inr (.inl rfl))))⟩, h.hw.moved (fun k e => hb k (.inr (.inr (.inr e)))), h.ne⟩
theorem DvAt.below (h : DvAt w g b0 b1 v d) (b : Below w.heap.size w w') : DvAt w' g b0 b1 v d := h.moved (fun k e => b.block k (h.lt e))
theorem DvAt.keep {B : Nat} {S : Nat → Prop} (h : DvAt w g b0 b1 v d) (hk : Keep B S w w') (hS : ∀ k, dvB g b0 b1 v k → k < B ∧ ¬ S k) : DvAt w' g b0 b1 v d := h.moved (fun k e => hk.block k (hS k e).1 (hS k e).2)
theorem DvAt.drew (h : DvAt w g b0 b1 v d) : DvAt w.drew g b0 b1 v d := h.moved (fun _ _ => rfl)
theorem DvAt.alloc (h : DvAt w g b0 b1 v d) (o : Obj) : DvAt (w.alloc o) g b0 b1 v d := h.below ((Below.refl _ _).alloc (Nat.le_refl _) o)
theorem DvAt.cell4 (h : DvAt w g b0 b1 v d) : w.cell? ⟨g, 4, none⟩ = some v ∧ w.frozen? ⟨g, 4, none⟩ = false := by
  obtain ⟨c0, c1, hg, h0, h1⟩ := h.hx
  have y := hg.cell 4
  simp at y
  exact ⟨y, hg.frozen 4⟩
theorem DvAt.ng0 (h : DvAt w g b0 b1 v d) : g ≠ b0 := by
  obtain ⟨c0, c1, hg, h0, h1⟩ := h.hx
  obtain ⟨cur, hc⟩ := row_blk h0
  rintro rfl; exact absurd (hg.type_eq' hc) (by decide)
theorem DvAt.ng1 (h : DvAt w g b0 b1 v d) : g ≠ b1 := by
  obtain ⟨c0, c1, hg, h0, h1⟩ := h.hx
  obtain ⟨cur, hc⟩ := row_blk h1
  rintro rfl; exact absurd (hg.type_eq' hc) (by decide)
theorem DvAt.zg (h : DvAt w g b0 b1 v d) : zblock v ≠ some g := by
  obtain ⟨c0, c1, hg, h0, h1⟩ := h.hx
  exact h.hw.ne hg (by decide)
theorem DvAt.z0 (h : DvAt w g b0 b1 v d) : zblock v ≠ some b0 := by
  obtain ⟨c0, c1, hg, h0, h1⟩ := h.hx
  exact h.hw.ne_row h0 (by decide)
theorem DvAt.z1 (h : DvAt w g b0 b1 v d) : zblock v ≠ some b1 := by
  obtain ⟨c0, c1, hg, h0, h1⟩ := h.hx
  exact h.hw.ne_row h1 (by decide)
theorem DvAt.form (h : DvAt w g b0 b1 v d) : ∃ A c, v = .slice A d.ws.length c ∧ d.ws.length ≤ c ∧ c ≤ maxLen := h.hw.form
/-- another list waits -/
theorem DvAt.setWs (h : DvAt w g b0 b1 v d) (u : Value) (l : List Wr) (hu : Owns w 67 3 u l.length (wrsV l)) : DvAt (w.setCell ⟨g, 4, none⟩ u) g b0 b1 u { d with ws := l } := by
  obtain ⟨c0, c1, hg, h0, h1⟩ := h.hx
  have n0 := h.ng0
  have n1 := h.ng1
  refine ⟨⟨c0, c1, ?_, row_set h0 (by intro e; cases e; exact n0 rfl) _, row_set h1 (by intro e; cases e; exact n1 rfl) _⟩, hu.set (hu.ne hg (by decide)) _, h.ne⟩
  have := hg.set_ 4 u
  simpa using this
end

def isB (dev : Int) : Bool := dev == 0 || dev == 1
def Dv.sec (d : Dv) (dev : Int) : List (List UInt8) := if dev = 0 then d.s0 else d.s1
def Dv.gone (d : Dv) (dev : Int) : Bool := if dev = 0 then d.l0 else d.l1
/-- may a text be read, or written, at a place -/
def mayE (d : Dv) (l : Lc) (s : List UInt8) : Int :=
  if !isB l.dev || (decide (l.pos < 0) || (decide (((d.sec l.dev).length : Int) ≤ l.pos) || decide (1024 < s.length))) then 1 else if d.gone l.dev then 5 else 0

set_option maxHeartbeats 1000000 in
theorem is_any (g : Nat) (dev : Int) (w : World) :
    Calls Tryd.prog 35 #[.pointer (some ⟨g, 0, none⟩), .int .i64 dev] w fun e w' => e = .returned (.bool (isB dev)) ∧ w = w' := by
  unfold isB
  go_enter Tryd.func35, Tryd.ntmps35
  go_wp2
  all_goals go_ret
  all_goals exact ⟨ret_bool (by simp_all), rfl⟩
set_option maxHeartbeats 1000000 in
theorem is_nil (dev : Int) (w : World) :
    Calls Tryd.prog 35 #[.pointer none, .int .i64 dev] w fun e w' => e = .returned (.bool false) ∧ w = w' := by
  go_enter Tryd.func35, Tryd.ntmps35
  go_wp2
  all_goals go_ret
  all_goals exact ⟨rfl, rfl⟩
theorem is_to {dev : Int} {b : Bool} (h : isB dev = b) (g : Nat) (w : World) :
    Calls Tryd.prog 35 #[.pointer (some ⟨g, 0, none⟩), .int .i64 dev] w fun e w' => e = .returned (.bool b) ∧ w = w' := by subst h; exact is_any g dev w

set_option maxHeartbeats 1000000 in
theorem size_any (g b0 b1 : Nat) (v : Value) (d : Dv) (dev : Int) (w : World) (h : DvAt w g b0 b1 v d) :
    Calls Tryd.prog 24 #[.pointer (some ⟨g, 0, none⟩), .int .i64 dev] w fun e w' => e = .returned (.int .i64 (if isB dev then (d.sec dev).length else 0)) ∧ w = w' := by
  obtain ⟨k0, k1, hg, h0, h1⟩ := h.hx
  have c0 := hg.cell 0
  have c1 := hg.cell 1
  simp at c0 c1
  cases hb : isB dev with
  | false =>
    have HB := Lib.hid hb
    clear hb
    go_enter Tryd.func24, Tryd.ntmps24
    go_wp2_with fail
    refine (is_to HB.out g w).mono ?_
    rintro e _ ⟨rfl, rfl⟩
    go_wp2
    go_ret
    exact ⟨rfl, rfl⟩
  | true =>
    have h01 : dev = 0 ∨ dev = 1 := by simpa [isB] using hb
    have HB := Lib.hid hb
    clear hb
    rcases h01 with rfl | rfl
    all_goals
      go_enter Tryd.func24, Tryd.ntmps24
      go_wp2_with fail
      refine (is_to HB.out g w).mono ?_
      rintro e _ ⟨rfl, rfl⟩
      go_wp2
      go_ret
      exact ⟨rfl, rfl⟩
set_option maxHeartbeats 1000000 in
theorem size_nil (dev : Int) (w : World) :
    Calls Tryd.prog 24 #[.pointer none, .int .i64 dev] w fun e w' => e = .returned (.int .i64 0) ∧ w = w' := by
  go_enter Tryd.func24, Tryd.ntmps24
  go_wp2_with fail
  refine (is_nil dev w).mono ?_
  rintro e _ ⟨rfl, rfl⟩
  go_wp2
  go_ret
  exact ⟨rfl, rfl⟩

set_option maxHeartbeats 1000000 in
theorem lost_any (g b0 b1 : Nat) (v : Value) (d : Dv) (dev : Int) (w : World) (h : DvAt w g b0 b1 v d) :
    Calls Tryd.prog 25 #[.pointer (some ⟨g, 0, none⟩), .int .i64 dev] w fun e w' => e = .returned (.bool (isB dev && d.gone dev)) ∧ w = w' := by
  obtain ⟨k0, k1, hg, h0, h1⟩ := h.hx
  have c0 := hg.cell 2
  have c1 := hg.cell 3
  simp at c0 c1
  cases hb : isB dev with
  | false =>
    have HB := Lib.hid hb
    clear hb
    go_enter Tryd.func25, Tryd.ntmps25
    go_wp2_with fail
    refine (is_to HB.out g w).mono ?_
    rintro e _ ⟨rfl, rfl⟩
    go_wp2
    go_ret
    exact ⟨rfl, rfl⟩
  | true =>
    have h01 : dev = 0 ∨ dev = 1 := by simpa [isB] using hb
    have HB := Lib.hid hb
    clear hb
    rcases h01 with rfl | rfl
    all_goals
      go_enter Tryd.func25, Tryd.ntmps25
      go_wp2_with fail
      refine (is_to HB.out g w).mono ?_
      rintro e _ ⟨rfl, rfl⟩
      go_wp2
      all_goals go_ret
      all_goals exact ⟨rfl, rfl⟩
set_option maxHeartbeats 1000000 in
theorem lost_nil (dev : Int) (w : World) :
    Calls Tryd.prog 25 #[.pointer none, .int .i64 dev] w fun e w' => e = .returned (.bool false) ∧ w = w' := by
  go_enter Tryd.func25, Tryd.ntmps25
  go_wp2_with fail
  refine (is_nil dev w).mono ?_
  rintro e _ ⟨rfl, rfl⟩
  go_wp2
  go_ret
  exact ⟨rfl, rfl⟩

end Go.Proofs.YtmdjbmhjnajpgaaDoor
namespace Go.Proofs.YtmdjbmhjnajpgaaDoor
open Go.RowKit
set_option linter.unusedSimpArgs false
set_option linter.unnecessarySimpa false
set_option linter.unusedVariables false

set_option maxHeartbeats 4000000 in
theorem may_any (g b0 b1 : Nat) (v : Value) (d : Dv) (l : Lc) (s : List UInt8) (w : World) (h : DvAt w g b0 b1 v d) :
    Calls Tryd.prog 27 #[.pointer (some ⟨g, 0, none⟩), .agg #[.int .i64 l.dev, .int .i64 l.pos], .string (bstr s)] w fun e w' => e = .returned (.int .i64 (mayE d l s)) ∧ Below w.heap.size w w' := by
  obtain ⟨dev, pos⟩ := l
  simp only
  obtain ⟨k0, k1, hG, hS0, hS1⟩ := h.hx
  have a0 := fun o => (hG.alloc o).cell 0
  have a1 := fun o => (hG.alloc o).cell 1
  have a2 := fun o => (hG.alloc o).cell 2
  have a3 := fun o => (hG.alloc o).cell 3
  simp at a0 a1 a2 a3
  have hbel : ∀ o n, Below w.heap.size w ((w.alloc o).drewN n) := fun o n => ((Below.refl _ _).alloc (Nat.le_refl _) o).dN n
  clear h hG hS0 hS1
  cases hb : isB dev with
  | false =>
    have e : mayE d ⟨dev, pos⟩ s = 1 := by simp [mayE, hb]
    rw [e]
    have HB := Lib.hid hb
    clear hb e
    go_enter Tryd.func27, Tryd.ntmps27
    go_wp2_with fail
    go_quiet ((go_at_call 35; exact quiet_same (is_to HB.out _ _)))
    go_wp2
    go_ret
    exact ⟨rfl, hbel _ _⟩
  | true =>
    have h01 : dev = 0 ∨ dev = 1 := by simpa [isB] using hb
    have HB := Lib.hid hb
    clear hb
    rcases h01 with rfl | rfl
    · by_cases t1 : pos < 0
      · have q1 : decide (pos < 0) = true := decide_eq_true t1
        rw [show mayE d ⟨0, pos⟩ s = 1 by simp [mayE, isB, Dv.sec, t1]]
        go_enter Tryd.func27, Tryd.ntmps27
        go_wp2_with fail
        go_quiet ((go_at_call 35; exact quiet_same (is_to HB.out _ _)))
        go_wp2
        go_ret
        exact ⟨rfl, hbel _ _⟩
      · have q1 : decide (pos < 0) = false := decide_eq_false t1
        by_cases t2 : (d.s0.length : Int) ≤ pos
        · have q2 : decide ((d.s0.length : Int) ≤ pos) = true := decide_eq_true t2
          rw [show mayE d ⟨0, pos⟩ s = 1 by simp [mayE, isB, Dv.sec, t2]]
          go_enter Tryd.func27, Tryd.ntmps27
          go_wp2_with fail
          go_quiet ((go_at_call 35; exact quiet_same (is_to HB.out _ _)))
          go_wp2
          go_ret
          exact ⟨rfl, hbel _ _⟩
        · have q2 : decide ((d.s0.length : Int) ≤ pos) = false := decide_eq_false t2
          by_cases t3 : 1024 < s.length
          · have q3 : decide (1024 < (s.length : Int)) = true := decide_eq_true (by omega)
            rw [show mayE d ⟨0, pos⟩ s = 1 by simp [mayE, isB, Dv.sec, t3]]
            go_enter Tryd.func27, Tryd.ntmps27
            go_wp2_with fail
            go_quiet ((go_at_call 35; exact quiet_same (is_to HB.out _ _)))
            go_wp2
            go_ret
            exact ⟨rfl, hbel _ _⟩
          · have q3 : decide (1024 < (s.length : Int)) = false := decide_eq_false (by omega)
            cases hg : d.l0
            · rw [show mayE d ⟨0, pos⟩ s = 0 by simp [mayE, isB, Dv.sec, Dv.gone, t1, t2, t3, hg]]
              rw [hg] at a2
              go_enter Tryd.func27, Tryd.ntmps27
              go_wp2_with fail
              go_quiet ((go_at_call 35; exact quiet_same (is_to HB.out _ _)))
              go_wp2_with fail
              go_quiet ((fail))
              go_wp2
              go_ret
              exact ⟨rfl, (hbel _ _).dN _⟩
            · rw [show mayE d ⟨0, pos⟩ s = 5 by simp [mayE, isB, Dv.sec, Dv.gone, t1, t2, t3, hg]]
              rw [hg] at a2
              go_enter Tryd.func27, Tryd.ntmps27
              go_wp2_with fail
              go_quiet ((go_at_call 35; exact quiet_same (is_to HB.out _ _)))
              go_wp2_with fail
              go_quiet ((fail))
              go_wp2
              go_ret
              exact ⟨rfl, (hbel _ _).dN _⟩
    · by_cases t1 : pos < 0
      · have q1 : decide (pos < 0) = true := decide_eq_true t1
        rw [show mayE d ⟨1, pos⟩ s = 1 by simp [mayE, isB, Dv.sec, t1]]
        go_enter Tryd.func27, Tryd.ntmps27
        go_wp2_with fail
        go_quiet ((go_at_call 35; exact quiet_same (is_to HB.out _ _)))
        go_wp2
        go_ret
        exact ⟨rfl, hbel _ _⟩
      · have q1 : decide (pos < 0) = false := decide_eq_false t1
        by_cases t2 : (d.s1.length : Int) ≤ pos
        · have q2 : decide ((d.s1.length : Int) ≤ pos) = true := decide_eq_true t2
          rw [show mayE d ⟨1, pos⟩ s = 1 by simp [mayE, isB, Dv.sec, t2]]
          go_enter Tryd.func27, Tryd.ntmps27
          go_wp2_with fail
          go_quiet ((go_at_call 35; exact quiet_same (is_to HB.out _ _)))
          go_wp2
          go_ret
          exact ⟨rfl, hbel _ _⟩
        · have q2 : decide ((d.s1.length : Int) ≤ pos) = false := decide_eq_false t2
          by_cases t3 : 1024 < s.length
          · have q3 : decide (1024 < (s.length : Int)) = true := decide_eq_true (by omega)
            rw [show mayE d ⟨1, pos⟩ s = 1 by simp [mayE, isB, Dv.sec, t3]]
            go_enter Tryd.func27, Tryd.ntmps27
            go_wp2_with fail
            go_quiet ((go_at_call 35; exact quiet_same (is_to HB.out _ _)))
            go_wp2
            go_ret
            exact ⟨rfl, hbel _ _⟩
          · have q3 : decide (1024 < (s.length : Int)) = false := decide_eq_false (by omega)
            cases hg : d.l1
            · rw [show mayE d ⟨1, pos⟩ s = 0 by simp [mayE, isB, Dv.sec, Dv.gone, t1, t2, t3, hg]]
              rw [hg] at a3
              go_enter Tryd.func27, Tryd.ntmps27
              go_wp2_with fail
              go_quiet ((go_at_call 35; exact quiet_same (is_to HB.out _ _)))
              go_wp2_with fail
              go_quiet ((fail))
              go_wp2
              go_ret
              exact ⟨rfl, (hbel _ _).dN _⟩
            · rw [show mayE d ⟨1, pos⟩ s = 5 by simp [mayE, isB, Dv.sec, Dv.gone, t1, t2, t3, hg]]
              rw [hg] at a3
              go_enter Tryd.func27, Tryd.ntmps27
              go_wp2_with fail
              go_quiet ((go_at_call 35; exact quiet_same (is_to HB.out _ _)))
              go_wp2_with fail
              go_quiet ((fail))
              go_wp2
              go_ret
              exact ⟨rfl, (hbel _ _).dN _⟩

theorem may_to {d : Dv} {l : Lc} {s : List UInt8} {e0 : Int} (he : mayE d l s = e0) (g b0 b1 : Nat) (v : Value) (w : World) (h : DvAt w g b0 b1 v d) :
    Calls Tryd.prog 27 #[.pointer (some ⟨g, 0, none⟩), .agg #[.int .i64 l.dev, .int .i64 l.pos], .string (bstr s)] w fun e w' => e = .returned (.int .i64 e0) ∧ Below w.heap.size w w' := by subst he; exact may_any g b0 b1 v d l s w h

set_option maxHeartbeats 1000000 in
theorem may_nil (l : Lc) (s : List UInt8) (w : World) :
    Calls Tryd.prog 27 #[.pointer none, .agg #[.int .i64 l.dev, .int .i64 l.pos], .string (bstr s)] w fun e w' => e = .returned (.int .i64 1) ∧ Below w.heap.size w w' := by
  go_enter Tryd.func27, Tryd.ntmps27
  go_wp2_with fail
  go_quiet ((go_at_call 35; exact quiet_same (is_nil _ _)))
  go_wp2
  go_ret
  exact ⟨rfl, ((Below.refl _ _).alloc (Nat.le_refl _) _).dN _⟩

end Go.Proofs.YtmdjbmhjnajpgaaDoor
namespace Go.Proofs.YtmdjbmhjnajpgaaDoor
open Go.RowKit
set_option linter.unusedSimpArgs false
set_option linter.unnecessarySimpa false
set_option linter.unusedVariables false

set_option maxHeartbeats 2000000 in
theorem put0 (g b0 b1 : Nat) (v : Value) (d : Dv) (k : Nat) (t : List UInt8) (hk : k < d.s0.length) (w : World) (h : DvAt w g b0 b1 v d) :
    Calls Tryd.prog 30 #[.pointer (some ⟨g, 0, none⟩), .agg #[.int .i64 0, .int .i64 k, .string (bstr t)]] w fun e w' => e = .returned (.tuple #[]) ∧ DvAt w' g b0 b1 v { d with s0 := d.s0.set k t } ∧ Keep w.heap.size (· = b0) w w' := by
  have hkl : (k : Int) < d.s0.length := by omega
  have hk0 : (0 : Int) ≤ k := by omega
  go_enter Tryd.func30, Tryd.ntmps30
  go_wp2_with fail
  obtain ⟨G, hG⟩ : ∃ g, w.heap.size = g := ⟨_, rfl⟩
  obtain ⟨w0, hw0⟩ : ∃ x, w.alloc (.cells #[.int .i64 0, .int .i64 k, .string (bstr t)] 67) = x := ⟨_, rfl⟩
  have bx : Below w.heap.size w w0 := by rw [← hw0]; exact (Below.refl _ _).alloc (Nat.le_refl _) _
  have hx : Blk w0 G 67 #[.int .i64 0, .int .i64 k, .string (bstr t)] := by rw [← hw0, ← hG]; exact Blk.new _ _ _
  obtain ⟨c0, c1, p0, q0, q1⟩ := (h.below bx).hx
  have n1 : G ≠ b0 := by have := h.lt (k := b0) (.inr (.inl rfl)); omega
  have n2 : g ≠ b0 := h.ng0
  have n3 := h.ne
  have n4 := h.z0
  have hw0' := (h.below bx).hw
  rw [hw0]
  try rw [hG]
  have x0 := hx.cell 0
  have x1 := hx.cell 1
  have x2 := hx.cell 2
  have y0 := p0.cell 0
  have f0 := q0.frozenAt k
  have f1 : w0.cell? ⟨b0, k, none⟩ = some (.string (bstr d.s0[k])) := by rw [q0.cellAt _ (by omega), secV_get _ _ hk]
  simp at x0 x1 x2 y0
  have z0 : ∀ u, (w0.drew.setCell ⟨b0, k, none⟩ u).cell? ⟨G, 0, none⟩ = some (.int .i64 0) := fun u => by have := ((hx.drew).far (p := ⟨b0, k, none⟩) n1 u).cell 0; simpa using this
  have z1 : ∀ u, (w0.drew.setCell ⟨b0, k, none⟩ u).cell? ⟨G, 1, none⟩ = some (.int .i64 k) := fun u => by have := ((hx.drew).far (p := ⟨b0, k, none⟩) n1 u).cell 1; simpa using this
  have z2 : ∀ u, (w0.drew.setCell ⟨b0, k, none⟩ u).cell? ⟨G, 2, none⟩ = some (.string (bstr t)) := fun u => by have := ((hx.drew).far (p := ⟨b0, k, none⟩) n1 u).cell 2; simpa using this
  have z3 : ∀ u, (w0.drew.setCell ⟨b0, k, none⟩ u).cell? ⟨g, 0, none⟩ = some (.slice (some ⟨b0, 0, none⟩) d.s0.length c0) := fun u => by have := ((p0.drew).far (p := ⟨b0, k, none⟩) n2 u).cell 0; simpa using this
  go_region_held3 (fun w' => w'.cell? ⟨G, 0, none⟩ = some (.int .i64 0) ∧ w'.cell? ⟨G, 1, none⟩ = some (.int .i64 k) ∧ w'.cell? ⟨G, 2, none⟩ = some (.string (bstr t)) ∧ w'.cell? ⟨g, 0, none⟩ = some (.slice (some ⟨b0, 0, none⟩) d.s0.length c0))
    (first | exact ⟨x0, x1, x2, y0⟩ | exact ⟨z0 _, z1 _, z2 _, z3 _⟩ | go_keep)
    (fail)
  go_wp2
  go_end0
  refine ⟨rfl, ⟨⟨c0, c1, ?_, ?_, ?_⟩, (hw0'.set n4 _).drew, n3⟩, ((Keep.of_below bx).set1 k _).drew⟩
  · have := (p0.far (p := ⟨b0, k, none⟩) n2 (.string (bstr t))).drew
    simpa using this
  · have := (q0.stored k (.string (bstr t))).1.drew
    rw [secV_set] at this
    simpa using this
  · have := (row_set (i := k) q1 (g := b0) (by intro e; cases e; exact n3 rfl) (.string (bstr t))).drew
    simpa using this

set_option maxHeartbeats 2000000 in
theorem put1 (g b0 b1 : Nat) (v : Value) (d : Dv) (k : Nat) (t : List UInt8) (hk : k < d.s1.length) (w : World) (h : DvAt w g b0 b1 v d) :
    Calls Tryd.prog 30 #[.pointer (some ⟨g, 0, none⟩), .agg #[.int .i64 1, .int .i64 k, .string (bstr t)]] w fun e w' => e = .returned (.tuple #[]) ∧ DvAt w' g b0 b1 v { d with s1 := d.s1.set k t } ∧ Keep w.heap.size (· = b1) w w' := by
  have hkl : (k : Int) < d.s1.length := by omega
  have hk0 : (0 : Int) ≤ k := by omega
  go_enter Tryd.func30, Tryd.ntmps30
  go_wp2_with fail
  obtain ⟨G, hG⟩ : ∃ g, w.heap.size = g := ⟨_, rfl⟩
  obtain ⟨w0, hw0⟩ : ∃ x, w.alloc (.cells #[.int .i64 1, .int .i64 k, .string (bstr t)] 67) = x := ⟨_, rfl⟩
  have bx : Below w.heap.size w w0 := by rw [← hw0]; exact (Below.refl _ _).alloc (Nat.le_refl _) _
  have hx : Blk w0 G 67 #[.int .i64 1, .int .i64 k, .string (bstr t)] := by rw [← hw0, ← hG]; exact Blk.new _ _ _
  obtain ⟨c0, c1, p0, q0, q1⟩ := (h.below bx).hx
  have n1 : G ≠ b1 := by have := h.lt (k := b1) (.inr (.inr (.inl rfl))); omega
  have n2 : g ≠ b1 := h.ng1
  have n3 := h.ne
  have n4 := h.z1
  have hw0' := (h.below bx).hw
  rw [hw0]
  try rw [hG]
  have x0 := hx.cell 0
  have x1 := hx.cell 1
  have x2 := hx.cell 2
  have y0 := p0.cell 1
  have f0 := q1.frozenAt k
  have f1 : w0.cell? ⟨b1, k, none⟩ = some (.string (bstr d.s1[k])) := by rw [q1.cellAt _ (by omega), secV_get _ _ hk]
  simp at x0 x1 x2 y0
  have z0 : ∀ u, (w0.drew.setCell ⟨b1, k, none⟩ u).cell? ⟨G, 0, none⟩ = some (.int .i64 1) := fun u => by have := ((hx.drew).far (p := ⟨b1, k, none⟩) n1 u).cell 0; simpa using this
  have z1 : ∀ u, (w0.drew.setCell ⟨b1, k, none⟩ u).cell? ⟨G, 1, none⟩ = some (.int .i64 k) := fun u => by have := ((hx.drew).far (p := ⟨b1, k, none⟩) n1 u).cell 1; simpa using this
  have z2 : ∀ u, (w0.drew.setCell ⟨b1, k, none⟩ u).cell? ⟨G, 2, none⟩ = some (.string (bstr t)) := fun u => by have := ((hx.drew).far (p := ⟨b1, k, none⟩) n1 u).cell 2; simpa using this
  have z3 : ∀ u, (w0.drew.setCell ⟨b1, k, none⟩ u).cell? ⟨g, 1, none⟩ = some (.slice (some ⟨b1, 0, none⟩) d.s1.length c1) := fun u => by have := ((p0.drew).far (p := ⟨b1, k, none⟩) n2 u).cell 1; simpa using this
  go_region_held3 (fun w' => w'.cell? ⟨G, 0, none⟩ = some (.int .i64 1) ∧ w'.cell? ⟨G, 1, none⟩ = some (.int .i64 k) ∧ w'.cell? ⟨G, 2, none⟩ = some (.string (bstr t)) ∧ w'.cell? ⟨g, 1, none⟩ = some (.slice (some ⟨b1, 0, none⟩) d.s1.length c1))
    (first | exact ⟨x0, x1, x2, y0⟩ | exact ⟨z0 _, z1 _, z2 _, z3 _⟩ | go_keep)
    (fail)
  go_wp2
  go_end0
  refine ⟨rfl, ⟨⟨c0, c1, ?_, ?_, ?_⟩, (hw0'.set n4 _).drew, n3⟩, ((Keep.of_below bx).set1 k _).drew⟩
  · have := (p0.far (p := ⟨b1, k, none⟩) n2 (.string (bstr t))).drew
    simpa using this
  · have := (row_set (i := k) q0 (g := b1) (by intro e; cases e; exact n3 rfl) (.string (bstr t))).drew
    simpa using this
  · have := (q1.stored k (.string (bstr t))).1.drew
    rw [secV_set] at this
    simpa using this

/-- a write that is done -/
def Dv.put (d : Dv) (x : Wr) : Dv := if x.loc.dev = 0 then { d with s0 := d.s0.set x.loc.pos.toNat x.text } else { d with s1 := d.s1.set x.loc.pos.toNat x.text }
/-- may a write wait: is its place there -/
def Dv.has (d : Dv) (l : Lc) : Prop := isB l.dev = true ∧ 0 ≤ l.pos ∧ l.pos < (d.sec l.dev).length
theorem Dv.put_ws (d : Dv) (x : Wr) : (d.put x).ws = d.ws := by unfold Dv.put; split <;> rfl
theorem Dv.put_has (d : Dv) (x : Wr) (l : Lc) : (d.put x).has l ↔ d.has l := by
  unfold Dv.has Dv.put Dv.sec
  by_cases h : x.loc.dev = 0 <;> by_cases h2 : l.dev = 0 <;> simp [h, h2]

theorem dput_any (g b0 b1 : Nat) (v : Value) (d : Dv) (x : Wr) (hx : d.has x.loc) (w : World) (h : DvAt w g b0 b1 v d) :
    Calls Tryd.prog 30 #[.pointer (some ⟨g, 0, none⟩), .agg #[.int .i64 x.loc.dev, .int .i64 x.loc.pos, .string (bstr x.text)]] w fun e w' => e = .returned (.tuple #[]) ∧ DvAt w' g b0 b1 v (d.put x) ∧ Keep w.heap.size (fun k => k = b0 ∨ k = b1) w w' := by
  obtain ⟨⟨dev, pos⟩, t⟩ := x
  obtain ⟨h1, h2, h3⟩ := hx
  simp only at h1 h2 h3 ⊢
  obtain ⟨k, rfl⟩ : ∃ k : Nat, pos = k := ⟨pos.toNat, by omega⟩
  have h01 : dev = 0 ∨ dev = 1 := by simpa [isB] using h1
  rcases h01 with rfl | rfl
  · refine (put0 g b0 b1 v d k t (by simp [Dv.sec] at h3; omega) w h).mono ?_
    rintro e w' ⟨rfl, h4, h5⟩
    exact ⟨rfl, by simpa [Dv.put] using h4, h5.mono (Nat.le_refl _) (fun j _ e => .inl e)⟩
  · refine (put1 g b0 b1 v d k t (by simp [Dv.sec] at h3; omega) w h).mono ?_
    rintro e w' ⟨rfl, h4, h5⟩
    exact ⟨rfl, by simpa [Dv.put] using h4, h5.mono (Nat.le_refl _) (fun j _ e => .inr e)⟩

end Go.Proofs.YtmdjbmhjnajpgaaDoor
namespace Go.Proofs.YtmdjbmhjnajpgaaDoor
open Go.RowKit
set_option linter.unusedSimpArgs false
set_option linter.unnecessarySimpa false
set_option linter.unusedVariables false

/-- the bytes of a row: append's bounds, hidden from the walk -/
theorem bounds_100k {n : Nat} (hn : n ≤ 100000) (sz : Nat) (hs : sz ≤ 1000000000) : n + 1 ≤ maxLen ∧ (n + 1) * sz ≤ 140737488355328 := by
  refine ⟨by unfold maxLen; omega, ?_⟩
  calc (n + 1) * sz ≤ 100001 * 1000000000 := Nat.mul_le_mul (by omega) hs
    _ ≤ 140737488355328 := by decide

set_option maxHeartbeats 2000000 in
theorem write_ok (g b0 b1 : Nat) (v : Value) (d : Dv) (l : Lc) (s : List UInt8) (he : Hid (mayE d l s = 0)) (hn : d.ws.length ≤ 100000) (w : World) (h : DvAt w g b0 b1 v d) :
    Calls Tryd.prog 26 #[.pointer (some ⟨g, 0, none⟩), .agg #[.int .i64 l.dev, .int .i64 l.pos], .string (bstr s)] w fun e w' => (∃ v', e = .returned (.int .i64 0) ∧ DvAt w' g b0 b1 v' { d with ws := d.ws ++ [⟨l, s⟩] } ∧ (∀ k, zblock v' = some k → zblock v = some k ∨ w.heap.size ≤ k)) ∧ Keep w.heap.size (fun k => k = g ∨ zblock v = some k) w w' := by
  go_enter Tryd.func26, Tryd.ntmps26
  go_wp2_with fail
  obtain ⟨G, hG⟩ : ∃ g, w.heap.size = g := ⟨_, rfl⟩
  obtain ⟨w0, hw0⟩ : ∃ x, w.alloc (.cells #[.int .i64 l.dev, .int .i64 l.pos] 33) = x := ⟨_, rfl⟩
  have bx : Below w.heap.size w w0 := by rw [← hw0]; exact (Below.refl _ _).alloc (Nat.le_refl _) _
  have hx : Blk w0 G 33 #[.int .i64 l.dev, .int .i64 l.pos] := by rw [← hw0, ← hG]; exact Blk.new _ _ _
  rw [hw0]
  try rw [hG]
  have h0 := h.below bx
  refine (may_to he.out g b0 b1 v w0 h0).mono ?_
  rintro e w1 ⟨rfl, c1⟩
  have h1 := h0.below c1
  have hx1 := hx.below c1 hx.lt
  have k1 := bx.trans (c1.mono bx.size)
  obtain ⟨C0, C1, hg1, r0, r1⟩ := h1.hx
  have y0 := hg1.cell 4
  have y1 := hx1.cell 0
  have y2 := hx1.cell 1
  simp at y0 y1 y2
  have a0 := fun o => (hg1.alloc o).cell 4
  have a1 := fun o => (hx1.alloc o).cell 0
  have a2 := fun o => (hx1.alloc o).cell 1
  simp at a0 a1 a2
  obtain ⟨i0, hi0, hz0, hz1, hz2⟩ := info_parts wr_info
  have F1 := Lib.hid (bounds_100k hn 32 (by decide))
  have Z := Lib.hid h1.zg
  have HS := Lib.hid k1.size
  go_wp2_with fail
  go_region_law (first
    | (refine step_append_z _ (by rfl) _ _ _ (by rfl) 67 i0 _ 3 32 (by kernel_rfl) hi0 hz0 hz1 hz2 rfl (by decide) v d.ws.length (wrsV d.ws) rfl (Owns.drew (h1.hw.alloc _)) ⟨w1.heap.size, 0, none⟩ 1 1 (wrV ⟨l, s⟩) rfl rfl (World.news_of_block (Blk.drew (Blk.new w1 _ _))) (fun u hu => by simp [wrV] at hu; rcases hu with rfl | rfl | rfl <;> rfl) (by decide) F1.out.1 F1.out.2 _ rfl ?_; intro gn cap w9 hown9 hgrow9 hat9 hlt9 hcap9; have hb9 := (Blk.drew (hg1.alloc _)).grown hgrow9 (fun e => Z.out e.symm); have q0 := hb9.cell 4; have f0 := hb9.frozen 4; simp at q0))
  all_goals
    have e0 : DvAt (w1.alloc (.cells #[.int .i64 l.dev, .int .i64 l.pos, .string (bstr s)] 67)).drew g b0 b1 v d := (h1.alloc _).drew
    have kk : Keep w.heap.size (fun k => k = g ∨ zblock v = some k) w w9 := ((Keep.of_below k1).alloc k1.size _).drew.grown hgrow9 (fun k hk _ => .inr hk) (by simp; have := k1.size; omega)
    have z0 := h1.z0
    have z1 := h1.z1
    have n0 := h1.ng0
    have n1 := h1.ng1
    have hsz := HS.out
    have hat : ∀ k, gn = k → zblock v = some k ∨ w.heap.size ≤ k := by
      rintro k rfl
      rcases hat9 with e | e
      · exact .inl e
      · right; simp at e; omega
    go_wp2
    go_ret
    have e9 := Owns.drew (w := w9) hown9
    refine ⟨⟨.slice (some ⟨gn, 0, none⟩) (d.ws.length + 1) cap, rfl, ⟨⟨C0, C1, ?_, ?_, ?_⟩, ?_, h1.ne⟩, ?_⟩, kk.setCell (p := ⟨g, 4, none⟩) (.inr (.inl rfl)) _⟩
    · have := hb9.set_ 4 (.slice (some ⟨gn, 0, none⟩) (d.ws.length + 1) cap)
      simpa using this
    · exact row_set (row_grown ((r0.alloc _).drew) hgrow9 (fun k e => by cases e; exact z0)) (by intro e; cases e; exact n0 rfl) _
    · exact row_set (row_grown ((r1.alloc _).drew) hgrow9 (fun k e => by cases e; exact z1)) (by intro e; cases e; exact n1 rfl) _
    · have o1 : Owns w9 67 3 (.slice (some ⟨gn, 0, none⟩) (d.ws.length + 1) cap) (d.ws ++ [(⟨l, s⟩ : Wr)]).length (wrsV (d.ws ++ [(⟨l, s⟩ : Wr)])) := by rw [wrsV_snoc, List.length_append]; exact hown9
      exact o1.set (o1.ne hb9 (by decide)) _
    · intro k hk
      rw [zblock_some hcap9] at hk
      exact hat k (by simpa using hk)

theorem write_bad {e0 : Int} (g b0 b1 : Nat) (v : Value) (d : Dv) (l : Lc) (s : List UInt8) (he : Hid (mayE d l s = e0)) (hz : (e0 == 0) = false) (w : World) (h : DvAt w g b0 b1 v d) :
    Calls Tryd.prog 26 #[.pointer (some ⟨g, 0, none⟩), .agg #[.int .i64 l.dev, .int .i64 l.pos], .string (bstr s)] w fun e w' => e = .returned (.int .i64 e0) ∧ Below w.heap.size w w' := by
  go_enter Tryd.func26, Tryd.ntmps26
  go_wp2_with fail
  obtain ⟨G, hG⟩ : ∃ g, w.heap.size = g := ⟨_, rfl⟩
  obtain ⟨w0, hw0⟩ : ∃ x, w.alloc (.cells #[.int .i64 l.dev, .int .i64 l.pos] 33) = x := ⟨_, rfl⟩
  have bx : Below w.heap.size w w0 := by rw [← hw0]; exact (Below.refl _ _).alloc (Nat.le_refl _) _
  rw [hw0]
  try rw [hG]
  refine (may_to he.out g b0 b1 v w0 (h.below bx)).mono ?_
  rintro e w1 ⟨rfl, c1⟩
  go_wp2
  go_ret
  exact ⟨rfl, bx.trans (c1.mono bx.size)⟩
theorem dwrite_nil (l : Lc) (s : List UInt8) (w : World) :
    Calls Tryd.prog 26 #[.pointer none, .agg #[.int .i64 l.dev, .int .i64 l.pos], .string (bstr s)] w fun e w' => e = .returned (.int .i64 1) ∧ Below w.heap.size w w' := by
  go_enter Tryd.func26, Tryd.ntmps26
  go_wp2_with fail
  obtain ⟨G, hG⟩ : ∃ g, w.heap.size = g := ⟨_, rfl⟩
  obtain ⟨w0, hw0⟩ : ∃ x, w.alloc (.cells #[.int .i64 l.dev, .int .i64 l.pos] 33) = x := ⟨_, rfl⟩
  have bx : Below w.heap.size w w0 := by rw [← hw0]; exact (Below.refl _ _).alloc (Nat.le_refl _) _
  rw [hw0]
  try rw [hG]
  refine (may_nil l s w0).mono ?_
  rintro e w1 ⟨rfl, c1⟩
  go_wp2
  go_ret
  exact ⟨rfl, bx.trans (c1.mono bx.size)⟩

end Go.Proofs.YtmdjbmhjnajpgaaDoor
namespace Go.Proofs.YtmdjbmhjnajpgaaDoor
open Go.RowKit
set_option linter.unusedSimpArgs false
set_option linter.unnecessarySimpa false
set_option linter.unusedVariables false

theorem secC_zero (n : Nat) : madeCells #[Value.string ⟨#[]⟩] n = (secV (List.replicate n [])).toArray := by
  apply Array.ext'
  have h := toList_madeCells_one (.string ⟨#[]⟩) n
  rw [h]
  simp [secV]
theorem run_make_strs (n : Nat) (hn : n ≤ 4096) (w : World) :
    (Instr.makeSlice 55 (.int .i64 n) (.int .i64 n)).run Tryd.prog w = .ok (.slice (some ⟨w.heap.size, 0, none⟩) n n) (w.alloc (.cells (secV (List.replicate n [])).toArray 9)) := by
  obtain ⟨i0, h1, h2, h3, h4⟩ := info_parts (show (Tryd.prog.info? 9).map (fun i => (i.zero, i.size, i.bytes)) = some (some (.string ⟨#[]⟩), 1, 16) from by kernel_rfl)
  have hr := run_make (P := Tryd.prog) w 55 9 i0 _ Tryd.underlying55 h1 h2 .i64 .i64 n n (by omega) (Int.le_refl _) (by rw [h4]; omega) (by omega)
  rw [hr]
  simp only [Int.toNat_natCast, h3, Nat.mul_one]
  rw [show (Value.string ⟨#[]⟩).cells = #[Value.string ⟨#[]⟩] from rfl, secC_zero]

theorem dv_below (w : World) (a b c : Obj) : Below w.heap.size w (((w.alloc a).alloc b).alloc c).drew := ((((Below.refl _ _).alloc (Nat.le_refl _) a).alloc (by simp) b).alloc (by simp; omega) c).drew
theorem row_zero (w : World) (n : Nat) (hn : n ≤ 4096) {g : Nat} (hg : w.heap.size = g) : (w.alloc (.cells (secV (List.replicate n [])).toArray 9)).ownsRow 0 9 1 (.slice (some ⟨g, 0, none⟩) n n) n (secV (List.replicate n [])) := by
  subst hg
  have := World.ownsRow_lit (w := w) (base := 0) (e := 9) (size := 1) (secV (List.replicate n [])).toArray n (Nat.zero_le _) (by unfold maxLen; omega) (by simp [secV])
  simpa using this
theorem dv_new1 (w : World) (n m : Nat) (hn : n ≤ 4096) (hm : m ≤ 4096) : DvAt (((w.alloc (.cells (secV (List.replicate n [])).toArray 9)).alloc (.cells (secV (List.replicate m [])).toArray 9)).alloc (.cells #[.slice (some ⟨w.heap.size, 0, none⟩) n n, .slice (some ⟨w.heap.size + 1, 0, none⟩) m m, .bool false, .bool false, .slice none 0 0] 60)).drew
    (w.heap.size + 1 + 1) w.heap.size (w.heap.size + 1) (.slice none 0 0) ⟨List.replicate n [], List.replicate m [], false, false, []⟩ := by
  refine ⟨⟨n, m, ?_, ?_, ?_⟩, Owns.nil _ _ _, by omega⟩
  · have := blk_at (w := (w.alloc (.cells (secV (List.replicate n [])).toArray 9)).alloc (.cells (secV (List.replicate m [])).toArray 9)) (t := 60) (cs := #[.slice (some ⟨w.heap.size, 0, none⟩) n n, .slice (some ⟨w.heap.size + 1, 0, none⟩) m m, .bool false, .bool false, .slice none 0 0]) (g := w.heap.size + 1 + 1) (by simp)
    simpa using this.drew
  · have := (((row_zero w n hn rfl).alloc (.cells (secV (List.replicate m [])).toArray 9)).alloc (.cells #[.slice (some ⟨w.heap.size, 0, none⟩) n n, .slice (some ⟨w.heap.size + 1, 0, none⟩) m m, .bool false, .bool false, .slice none 0 0] 60)).drew
    simpa using this
  · have := ((row_zero (w.alloc (.cells (secV (List.replicate n [])).toArray 9)) m hm (g := w.heap.size + 1) (by simp)).alloc (.cells #[.slice (some ⟨w.heap.size, 0, none⟩) n n, .slice (some ⟨w.heap.size + 1, 0, none⟩) m m, .bool false, .bool false, .slice none 0 0] 60)).drew
    simpa using this
theorem dv_new2 (w : World) (n m : Nat) (hn : n ≤ 4096) (hm : m ≤ 4096) : DvAt (((w.alloc (.cells (secV (List.replicate m [])).toArray 9)).alloc (.cells (secV (List.replicate n [])).toArray 9)).alloc (.cells #[.slice (some ⟨w.heap.size + 1, 0, none⟩) n n, .slice (some ⟨w.heap.size, 0, none⟩) m m, .bool false, .bool false, .slice none 0 0] 60)).drew
    (w.heap.size + 1 + 1) (w.heap.size + 1) w.heap.size (.slice none 0 0) ⟨List.replicate n [], List.replicate m [], false, false, []⟩ := by
  refine ⟨⟨n, m, ?_, ?_, ?_⟩, Owns.nil _ _ _, by omega⟩
  · have := blk_at (w := (w.alloc (.cells (secV (List.replicate m [])).toArray 9)).alloc (.cells (secV (List.replicate n [])).toArray 9)) (t := 60) (cs := #[.slice (some ⟨w.heap.size + 1, 0, none⟩) n n, .slice (some ⟨w.heap.size, 0, none⟩) m m, .bool false, .bool false, .slice none 0 0]) (g := w.heap.size + 1 + 1) (by simp)
    simpa using this.drew
  · have := ((row_zero (w.alloc (.cells (secV (List.replicate m [])).toArray 9)) n hn (g := w.heap.size + 1) (by simp)).alloc (.cells #[.slice (some ⟨w.heap.size + 1, 0, none⟩) n n, .slice (some ⟨w.heap.size, 0, none⟩) m m, .bool false, .bool false, .slice none 0 0] 60)).drew
    simpa using this
  · have := (((row_zero w m hm rfl).alloc (.cells (secV (List.replicate n [])).toArray 9)).alloc (.cells #[.slice (some ⟨w.heap.size + 1, 0, none⟩) n n, .slice (some ⟨w.heap.size, 0, none⟩) m m, .bool false, .bool false, .slice none 0 0] 60)).drew
    simpa using this

def Dv.new (n m : Nat) : Dv := ⟨List.replicate n [], List.replicate m [], false, false, []⟩
set_option maxHeartbeats 2000000 in
theorem new_ok (n m : Nat) (h1 : 1 ≤ n) (h2 : n ≤ 512) (h3 : 1 ≤ m) (h4 : m ≤ 512) (w : World) :
    Calls Tryd.prog 9 #[.int .i64 n, .int .i64 m] w fun e w' => (∃ g b0 b1, e = .returned (.pointer (some ⟨g, 0, none⟩)) ∧ w.heap.size ≤ g ∧ w.heap.size ≤ b0 ∧ w.heap.size ≤ b1 ∧ DvAt w' g b0 b1 (.slice none 0 0) (Dv.new n m)) ∧ Below w.heap.size w w' := by
  have m1 : ∀ w, (Instr.makeSlice 55 (.int .i64 n) (.int .i64 n)).run Tryd.prog w = .ok (.slice (some ⟨w.heap.size, 0, none⟩) n n) (w.alloc (.cells (secV (List.replicate n [])).toArray 9)) := run_make_strs n (by omega)
  have m2 : ∀ w, (Instr.makeSlice 55 (.int .i64 m) (.int .i64 m)).run Tryd.prog w = .ok (.slice (some ⟨w.heap.size, 0, none⟩) m m) (w.alloc (.cells (secV (List.replicate m [])).toArray 9)) := run_make_strs m (by omega)
  unfold Dv.new
  go_enter Tryd.func9, Tryd.ntmps9
  go_wp2_with fail
  all_goals go_region_held3 (fun _ => True) (trivial) (fail)
  all_goals
    go_wp2
    go_ret
    first
      | exact ⟨⟨_, _, _, rfl, by omega, Nat.le_refl _, by omega, dv_new1 w n m (by omega) (by omega)⟩, dv_below w _ _ _⟩
      | exact ⟨⟨_, _, _, rfl, by omega, by omega, Nat.le_refl _, dv_new2 w n m (by omega) (by omega)⟩, dv_below w _ _ _⟩

set_option maxHeartbeats 2000000 in
theorem new_bad (n m : Int) (h : n < 1 ∨ m < 1 ∨ 512 < n ∨ 512 < m) (w : World) :
    Calls Tryd.prog 9 #[.int .i64 n, .int .i64 m] w fun e w' => e = .returned (.pointer none) ∧ w = w' := by
  go_enter Tryd.func9, Tryd.ntmps9
  go_wp2_with fail
  all_goals first | (exfalso; omega) | skip
  all_goals go_ret
  all_goals exact ⟨rfl, rfl⟩

end Go.Proofs.YtmdjbmhjnajpgaaDoor
namespace Go.Proofs.YtmdjbmhjnajpgaaDoor
open Go.RowKit
set_option linter.unusedSimpArgs false
set_option linter.unnecessarySimpa false
set_option linter.unusedVariables false

set_option maxHeartbeats 400000 in
theorem fl1_any (i : Int) (w : World) :
    Calls Tryd.prog 34 #[.int .i64 i] w fun e w' => e = .returned (.bool true) ∧ w = w' := by
  go_enter Tryd.func34, Tryd.ntmps34
  go_wp2
  go_ret
  exact ⟨rfl, rfl⟩

/-- the writes that wait, those that are kept, done one behind the other -/
def Dv.settle (d : Dv) (kf : Nat → Bool) : Nat → Dv
  | 0 => d
  | n + 1 => if kf n then (match d.ws[n]? with | some x => (d.settle kf n).put x | none => d.settle kf n) else d.settle kf n
theorem Dv.settle_ws (d : Dv) (kf : Nat → Bool) : ∀ n, (d.settle kf n).ws = d.ws
  | 0 => rfl
  | n + 1 => by
    unfold Dv.settle
    have ih := Dv.settle_ws d kf n
    split
    · split
      · rw [Dv.put_ws, ih]
      · exact ih
    · exact ih
theorem Dv.settle_has (d : Dv) (kf : Nat → Bool) (l : Lc) : ∀ n, (d.settle kf n).has l ↔ d.has l
  | 0 => Iff.rfl
  | n + 1 => by
    unfold Dv.settle
    have ih := Dv.settle_has d kf l n
    split
    · split
      · rw [Dv.put_has, ih]
      · exact ih
    · exact ih

set_option maxHeartbeats 2000000 in
theorem settle_all (g b0 b1 : Nat) (v : Value) (d : Dv) (hws : ∀ x ∈ d.ws, d.has x.loc) (hn : d.ws.length ≤ 100000) (w : World) (h : DvAt w g b0 b1 v d) :
    Calls Tryd.prog 49 #[v, .func (.func 34) #[] #[], .func (.func 30) #[.pointer (some ⟨g, 0, none⟩)] #[]] w fun e w' => e = .returned (.tuple #[]) ∧ DvAt w' g b0 b1 v (d.settle (fun _ => true) d.ws.length) ∧ Keep w.heap.size (fun k => k = b0 ∨ k = b1) w w' := by
  obtain ⟨A, c, rfl, _, _⟩ := h.form
  go_enter Tryd.func49, Tryd.ntmps49
  go_wp2_with fail
  go_loopw [10] (fun i wr => ∃ k : Nat, k ≤ d.ws.length ∧ i = .int .i64 k ∧ DvAt wr g b0 b1 (.slice A d.ws.length c) (d.settle (fun _ => true) k) ∧ Keep w.heap.size (fun k => k = b0 ∨ k = b1) w wr) (fun i _ => d.ws.length - (intOf i).toNat)
  case atStart => exact ⟨0, by omega, rfl, h, Keep.refl _ _ _⟩
  case round =>
    obtain ⟨k, hk, rfl, hd, kw⟩ := hrel
    by_cases hlt : k < d.ws.length
    · have hown := hd.hw
      rw [Dv.settle_ws] at hown
      have hown := hown.row (by omega)
      obtain ⟨gr, rfl⟩ : ∃ gr, A = some ⟨gr, 0, none⟩ := by
        rcases hown.2 with ⟨_, h0⟩ | ⟨gr, cap, cur, e, _⟩
        · omega
        · simp at e; exact ⟨gr, e.1⟩
      obtain ⟨g1, g2, g3⟩ := wrsV_get d.ws k hlt
      have y0 := hown.cellAt (k * 3) (by omega)
      have y1 := hown.cellAt (k * 3 + 1) (by omega)
      have y2 := hown.cellAt (k * 3 + 2) (by omega)
      rw [g1] at y0
      rw [g2] at y1
      rw [g3] at y2
      have hset : d.settle (fun _ => true) (k + 1) = (d.settle (fun _ => true) k).put d.ws[k] := by
        rw [Dv.settle, if_pos rfl, List.getElem?_eq_getElem hlt]
      have hhas : (d.settle (fun _ => true) k).has d.ws[k].loc := (Dv.settle_has _ _ _ _).2 (hws _ (List.getElem_mem hlt))
      have HSET := Lib.hid hset
      have HHAS := Lib.hid hhas
      clear hset hhas g1 g2 g3 hown
      go_wp2_with fail
      obtain ⟨w5, hw5⟩ : ∃ x, wr.alloc (.cells #[.int .i64 d.ws[k].loc.dev, .int .i64 d.ws[k].loc.pos, .string (bstr d.ws[k].text)] 67) = x := ⟨_, rfl⟩
      obtain ⟨gl, hgl⟩ : ∃ g, wr.heap.size = g := ⟨_, rfl⟩
      have bl : Below wr.heap.size wr w5 := by rw [← hw5]; exact (Below.refl _ _).alloc (Nat.le_refl _) _
      have hl : Blk w5 gl 67 #[.int .i64 d.ws[k].loc.dev, .int .i64 d.ws[k].loc.pos, .string (bstr d.ws[k].text)] := by rw [← hw5, ← hgl]; exact Blk.new _ _ _
      rw [hw5]
      try rw [hgl]
      clear y0 y1 y2
      refine (fl1_any _ w5).mono ?_
      rintro e _ ⟨rfl, rfl⟩
      have z0 := hl.cell 0
      have z1 := hl.cell 1
      have z2 := hl.cell 2
      simp at z0 z1 z2
      go_wp2_with fail
      refine (dput_any g b0 b1 _ _ d.ws[k] HHAS.out w5 (hd.below bl)).mono ?_
      rintro e w6 ⟨rfl, hd6, k6⟩
      have kw6 : Keep w.heap.size (fun k => k = b0 ∨ k = b1) w w6 := (kw.trans ((Keep.of_below bl).mono (B' := w.heap.size) (S' := fun k => k = b0 ∨ k = b1) kw.size (fun _ _ h => h))).trans (k6.mono (Nat.le_trans kw.size bl.size) (fun _ _ h => h))
      go_wp2
      go_round
      case rel => exact ⟨k + 1, by omega, by go_num, by rw [HSET.out]; exact hd6, kw6⟩
      case measure => simp [intOf]; omega
    · obtain rfl : k = d.ws.length := by omega
      go_wp2
      go_end0
      exact ⟨rfl, hd, kw⟩

end Go.Proofs.YtmdjbmhjnajpgaaDoor
namespace Go.Proofs.YtmdjbmhjnajpgaaDoor
open Go.RowKit
set_option linter.unusedSimpArgs false
set_option linter.unnecessarySimpa false
set_option linter.unusedVariables false

theorem DvAt.nilled {w : World} {g b0 b1 : Nat} {v : Value} {d : Dv} (h : DvAt w g b0 b1 v d) : DvAt (w.setCell ⟨g, 4, none⟩ (.slice none 0 0)) g b0 b1 (.slice none 0 0) { d with ws := [] } :=
  h.setWs _ [] (Owns.nil _ _ _)

/-- all that wait are done, and none waits -/
def Dv.flush (d : Dv) : Dv := { d.settle (fun _ => true) d.ws.length with ws := [] }
set_option maxHeartbeats 1000000 in
theorem done_all (g b0 b1 : Nat) (v : Value) (d : Dv) (hws : ∀ x ∈ d.ws, d.has x.loc) (hn : d.ws.length ≤ 100000) (w : World) (h : DvAt w g b0 b1 v d) :
    Calls Tryd.prog 33 #[.pointer (some ⟨g, 0, none⟩), .func (.func 34) #[] #[]] w fun e w' => e = .returned (.int .i64 0) ∧ DvAt w' g b0 b1 (.slice none 0 0) d.flush ∧ Keep w.heap.size (fun k => k = g ∨ k = b0 ∨ k = b1) w w' := by
  have y4 := h.cell4.1
  go_enter Tryd.func33, Tryd.ntmps33
  go_wp2_with fail
  refine (settle_all g b0 b1 v d hws hn w h).mono ?_
  rintro e w1 ⟨rfl, h1, k1⟩
  have z4 := h1.cell4.1
  have f4 := h1.cell4.2
  go_wp2
  go_ret
  exact ⟨rfl, h1.nilled, (k1.mono (Nat.le_refl _) (fun _ _ h => .inr h)).setCell (p := ⟨g, 4, none⟩) (.inr (.inl rfl)) _⟩

set_option maxHeartbeats 1000000 in
theorem flush_any (g b0 b1 : Nat) (v : Value) (d : Dv) (hws : ∀ x ∈ d.ws, d.has x.loc) (hn : d.ws.length ≤ 100000) (w : World) (h : DvAt w g b0 b1 v d) :
    Calls Tryd.prog 15 #[.pointer (some ⟨g, 0, none⟩)] w fun e w' => e = .returned (.int .i64 0) ∧ DvAt w' g b0 b1 (.slice none 0 0) d.flush ∧ Keep w.heap.size (fun k => k = g ∨ k = b0 ∨ k = b1) w w' := by
  go_enter Tryd.func15, Tryd.ntmps15
  go_wp2_with fail
  refine (done_all g b0 b1 v d hws hn w h).mono ?_
  rintro e w1 ⟨rfl, h1, k1⟩
  go_wp2
  go_ret
  exact ⟨rfl, h1, k1⟩

end Go.Proofs.YtmdjbmhjnajpgaaDoor
namespace Go.Proofs.YtmdjbmhjnajpgaaDoor
open Go.RowKit
set_option linter.unusedSimpArgs false
set_option linter.unnecessarySimpa false
set_option linter.unusedVariables false

/-- the closure's variable: a slice of bools, none of it in the sectors' blocks -/
def KpAt (b0 b1 : Nat) (w : World) (kb : Nat) (l : List Bool) : Prop :=
  ∃ A c, Blk w kb 48 #[.slice A l.length c] ∧ kb ≠ b0 ∧ kb ≠ b1 ∧ ∀ i (h : i < l.length), ∃ ad : Addr, A = some ad ∧ ad.block < w.heap.size ∧ ad.block ≠ b0 ∧ ad.block ≠ b1 ∧ w.cell? (ad.add i) = some (.bool l[i])
theorem KpAt.keep {b0 b1 : Nat} {w w' : World} {kb : Nat} {l : List Bool} (h : KpAt b0 b1 w kb l) (k : Keep w.heap.size (fun k => k = b0 ∨ k = b1) w w') : KpAt b0 b1 w' kb l := by
  obtain ⟨A, c, hb, n0, n1, hc⟩ := h
  refine ⟨A, c, hb.keep k hb.lt (by rintro (e | e); exact n0 e; exact n1 e), n0, n1, fun i hi => ?_⟩
  obtain ⟨ad, rfl, h1, h2, h3, h4⟩ := hc i hi
  have e : (ad.add i).block = ad.block := by unfold Addr.add; split <;> rfl
  refine ⟨ad, rfl, Nat.lt_of_lt_of_le h1 k.size, h2, h3, ?_⟩
  rw [k.cell (by rw [e]; exact h1) (by rw [e]; rintro (e | e); exact h2 e; exact h3 e)]
  exact h4
theorem KpAt.below {b0 b1 : Nat} {w w' : World} {kb : Nat} {l : List Bool} (h : KpAt b0 b1 w kb l) (b : Below w.heap.size w w') : KpAt b0 b1 w' kb l := h.keep (Keep.of_below b)
def kpB (l : List Bool) (i : Nat) : Bool := (l[i]?).getD false

set_option maxHeartbeats 1000000 in
theorem cr1_any (b0 b1 kb : Nat) (l : List Bool) (i : Nat) (hi : i ≤ 100000) (w : World) (h : KpAt b0 b1 w kb l) :
    Calls Tryd.prog 37 #[.int .i64 i, .pointer (some ⟨kb, 0, none⟩)] w fun e w' => e = .returned (.bool (kpB l i)) ∧ w = w' := by
  obtain ⟨A, c, hb, n0, n1, hc⟩ := h
  have c0 := hb.cell 0
  simp at c0
  by_cases hlt : i < l.length
  · obtain ⟨ad, rfl, h1, h2, h3, h4⟩ := hc i hlt
    have e : kpB l i = l[i] := by simp [kpB, hlt]
    rw [e]
    have q1 : decide ((i : Int) < l.length) = true := decide_eq_true (by omega)
    go_enter Tryd.func37, Tryd.ntmps37
    go_wp2
    go_ret
    exact ⟨rfl, rfl⟩
  · have e : kpB l i = false := by simp [kpB, hlt]
    rw [e]
    have q1 : decide ((i : Int) < l.length) = false := decide_eq_false (by omega)
    go_enter Tryd.func37, Tryd.ntmps37
    go_wp2
    go_ret
    exact ⟨rfl, rfl⟩

theorem cr1_to {kl : List Bool} {i : Nat} {b : Bool} (e : kpB kl i = b) (b0 b1 kb : Nat) (hi : i ≤ 100000) (w : World) (h : KpAt b0 b1 w kb kl) :
    Calls Tryd.prog 37 #[.int .i64 i, .pointer (some ⟨kb, 0, none⟩)] w fun e w' => e = .returned (.bool b) ∧ w = w' := by subst e; exact cr1_any b0 b1 kb kl i hi w h

set_option maxHeartbeats 2000000 in
theorem settle_cr (g b0 b1 : Nat) (v : Value) (d : Dv) (kb : Nat) (kl : List Bool) (hws : ∀ x ∈ d.ws, d.has x.loc) (hn : d.ws.length ≤ 100000) (w : World) (h : DvAt w g b0 b1 v d) (hk : KpAt b0 b1 w kb kl) :
    Calls Tryd.prog 49 #[v, .func (.func 37) #[] #[.pointer (some ⟨kb, 0, none⟩)], .func (.func 30) #[.pointer (some ⟨g, 0, none⟩)] #[]] w fun e w' => e = .returned (.tuple #[]) ∧ DvAt w' g b0 b1 v (d.settle (kpB kl) d.ws.length) ∧ Keep w.heap.size (fun k => k = b0 ∨ k = b1) w w' := by
  obtain ⟨A, c, rfl, _, _⟩ := h.form
  go_enter Tryd.func49, Tryd.ntmps49
  go_wp2_with fail
  go_loopw [10] (fun i wr => ∃ k : Nat, k ≤ d.ws.length ∧ i = .int .i64 k ∧ DvAt wr g b0 b1 (.slice A d.ws.length c) (d.settle (kpB kl) k) ∧ Keep w.heap.size (fun k => k = b0 ∨ k = b1) w wr) (fun i _ => d.ws.length - (intOf i).toNat)
  case atStart => exact ⟨0, by omega, rfl, h, Keep.refl _ _ _⟩
  case round =>
    obtain ⟨k, hkk, rfl, hd, kw⟩ := hrel
    have hkp := hk.keep kw
    by_cases hlt : k < d.ws.length
    · have hown := hd.hw
      rw [Dv.settle_ws] at hown
      have hown := hown.row (by omega)
      obtain ⟨gr, rfl⟩ : ∃ gr, A = some ⟨gr, 0, none⟩ := by
        rcases hown.2 with ⟨_, h0⟩ | ⟨gr, cap, cur, e, _⟩
        · omega
        · simp at e; exact ⟨gr, e.1⟩
      obtain ⟨g1, g2, g3⟩ := wrsV_get d.ws k hlt
      have y0 := hown.cellAt (k * 3) (by omega)
      have y1 := hown.cellAt (k * 3 + 1) (by omega)
      have y2 := hown.cellAt (k * 3 + 2) (by omega)
      rw [g1] at y0
      rw [g2] at y1
      rw [g3] at y2
      obtain ⟨bk, hbk⟩ : ∃ b, kpB kl k = b := ⟨_, rfl⟩
      have HBK := Lib.hid hbk
      clear hbk
      have hset : d.settle (kpB kl) (k + 1) = if bk then (d.settle (kpB kl) k).put d.ws[k] else d.settle (kpB kl) k := by
        rw [Dv.settle, HBK.out, List.getElem?_eq_getElem hlt]
      have hhas : (d.settle (kpB kl) k).has d.ws[k].loc := (Dv.settle_has _ _ _ _).2 (hws _ (List.getElem_mem hlt))
      have HSET := Lib.hid hset
      have HHAS := Lib.hid hhas
      clear hset hhas g1 g2 g3 hown
      go_wp2_with fail
      obtain ⟨w5, hw5⟩ : ∃ x, wr.alloc (.cells #[.int .i64 d.ws[k].loc.dev, .int .i64 d.ws[k].loc.pos, .string (bstr d.ws[k].text)] 67) = x := ⟨_, rfl⟩
      obtain ⟨gl, hgl⟩ : ∃ g, wr.heap.size = g := ⟨_, rfl⟩
      have bl : Below wr.heap.size wr w5 := by rw [← hw5]; exact (Below.refl _ _).alloc (Nat.le_refl _) _
      have hl : Blk w5 gl 67 #[.int .i64 d.ws[k].loc.dev, .int .i64 d.ws[k].loc.pos, .string (bstr d.ws[k].text)] := by rw [← hw5, ← hgl]; exact Blk.new _ _ _
      rw [hw5]
      try rw [hgl]
      clear y0 y1 y2
      refine (cr1_to HBK.out b0 b1 kb (by omega) w5 (hkp.below bl)).mono ?_
      rintro e _ ⟨rfl, rfl⟩
      have kl5 : Keep w.heap.size (fun k => k = b0 ∨ k = b1) w w5 := kw.trans ((Keep.of_below bl).mono (B' := w.heap.size) (S' := fun k => k = b0 ∨ k = b1) kw.size (fun _ _ h => h))
      cases bk
      · go_wp2
        go_round
        case rel => exact ⟨k + 1, by omega, by go_num, by rw [HSET.out]; exact hd.below bl, kl5⟩
        case measure => simp [intOf]; omega
      · have z0 := hl.cell 0
        have z1 := hl.cell 1
        have z2 := hl.cell 2
        simp at z0 z1 z2
        go_wp2_with fail
        refine (dput_any g b0 b1 _ _ d.ws[k] HHAS.out w5 (hd.below bl)).mono ?_
        rintro e w6 ⟨rfl, hd6, k6⟩
        have kw6 : Keep w.heap.size (fun k => k = b0 ∨ k = b1) w w6 := kl5.trans (k6.mono (Nat.le_trans kw.size bl.size) (fun _ _ h => h))
        go_wp2
        go_round
        case rel => exact ⟨k + 1, by omega, by go_num, by rw [HSET.out]; exact hd6, kw6⟩
        case measure => simp [intOf]; omega
    · obtain rfl : k = d.ws.length := by omega
      go_wp2
      go_end0
      exact ⟨rfl, hd, kw⟩

end Go.Proofs.YtmdjbmhjnajpgaaDoor
namespace Go.Proofs.YtmdjbmhjnajpgaaDoor
open Go.RowKit
set_option linter.unusedSimpArgs false
set_option linter.unnecessarySimpa false
set_option linter.unusedVariables false

/-- those that are kept are done, and none waits -/
def Dv.crash (d : Dv) (kl : List Bool) : Dv := { d.settle (kpB kl) d.ws.length with ws := [] }
set_option maxHeartbeats 1000000 in
theorem done_cr (g b0 b1 : Nat) (v : Value) (d : Dv) (kb : Nat) (kl : List Bool) (hws : ∀ x ∈ d.ws, d.has x.loc) (hn : d.ws.length ≤ 100000) (w : World) (h : DvAt w g b0 b1 v d) (hk : KpAt b0 b1 w kb kl) :
    Calls Tryd.prog 33 #[.pointer (some ⟨g, 0, none⟩), .func (.func 37) #[] #[.pointer (some ⟨kb, 0, none⟩)]] w fun e w' => e = .returned (.int .i64 0) ∧ DvAt w' g b0 b1 (.slice none 0 0) (d.crash kl) ∧ Keep w.heap.size (fun k => k = g ∨ k = b0 ∨ k = b1) w w' := by
  have y4 := h.cell4.1
  go_enter Tryd.func33, Tryd.ntmps33
  go_wp2_with fail
  refine (settle_cr g b0 b1 v d kb kl hws hn w h hk).mono ?_
  rintro e w1 ⟨rfl, h1, k1⟩
  have z4 := h1.cell4.1
  have f4 := h1.cell4.2
  go_wp2
  go_ret
  exact ⟨rfl, h1.nilled, (k1.mono (Nat.le_refl _) (fun _ _ h => .inr h)).setCell (p := ⟨g, 4, none⟩) (.inr (.inl rfl)) _⟩

set_option maxHeartbeats 1000000 in
theorem crash_any (g b0 b1 : Nat) (v : Value) (d : Dv) (A : Option Addr) (c : Nat) (kl : List Bool) (hws : ∀ x ∈ d.ws, d.has x.loc) (hn : d.ws.length ≤ 100000) (w : World) (h : DvAt w g b0 b1 v d)
    (hk : ∀ i (h : i < kl.length), ∃ ad : Addr, A = some ad ∧ ad.block < w.heap.size ∧ ad.block ≠ b0 ∧ ad.block ≠ b1 ∧ w.cell? (ad.add i) = some (.bool kl[i])) :
    Calls Tryd.prog 21 #[.pointer (some ⟨g, 0, none⟩), .slice A kl.length c] w fun e w' => e = .returned (.int .i64 0) ∧ DvAt w' g b0 b1 (.slice none 0 0) (d.crash kl) ∧ Keep w.heap.size (fun k => k = g ∨ k = b0 ∨ k = b1) w w' := by
  go_enter Tryd.func21, Tryd.ntmps21
  go_wp2_with fail
  obtain ⟨kb, hkb⟩ : ∃ g, w.heap.size = g := ⟨_, rfl⟩
  obtain ⟨w0, hw0⟩ : ∃ x, w.alloc (.cells #[.slice A kl.length c] 48) = x := ⟨_, rfl⟩
  have bx : Below w.heap.size w w0 := by rw [← hw0]; exact (Below.refl _ _).alloc (Nat.le_refl _) _
  have hx : Blk w0 kb 48 #[.slice A kl.length c] := by rw [← hw0, ← hkb]; exact Blk.new _ _ _
  have hkp : KpAt b0 b1 w0 kb kl := by
    refine ⟨A, c, hx, by have := h.lt (k := b0) (.inr (.inl rfl)); omega, by have := h.lt (k := b1) (.inr (.inr (.inl rfl))); omega, fun i hi => ?_⟩
    obtain ⟨ad, rfl, h1, h2, h3, h4⟩ := hk i hi
    have e : (ad.add i).block = ad.block := by unfold Addr.add; split <;> rfl
    exact ⟨ad, rfl, Nat.lt_of_lt_of_le h1 bx.size, h2, h3, by rw [bx.cell (by rw [e]; exact h1)]; exact h4⟩
  rw [hw0]
  try rw [hkb]
  refine (done_cr g b0 b1 v d kb kl hws hn w0 (h.below bx) hkp).mono ?_
  rintro e w1 ⟨rfl, h1, k1⟩
  go_wp2
  go_ret
  exact ⟨rfl, h1, (Keep.of_below bx).trans (k1.mono bx.size (fun _ _ h => h))⟩

end Go.Proofs.YtmdjbmhjnajpgaaDoor
namespace Go.Proofs.YtmdjbmhjnajpgaaDoor
open Go.RowKit
set_option linter.unusedSimpArgs false
set_option linter.unnecessarySimpa false
set_option linter.unusedVariables false

def lcV (l : Lc) : List Value := [.int .i64 l.dev, .int .i64 l.pos]
def lcsV (l : List Lc) : List Value := l.flatMap lcV
theorem loc_info : (Tryd.prog.info? 33).map (fun i => (i.zero, i.size, i.bytes)) = some (some (.agg #[.int .i64 0, .int .i64 0]), 2, 16) := by kernel_rfl

theorem wpList_app2 {P : Program} {ops : Array Oper} {rest : List Oper} {o : Oper} {a : Act} {Q : Exit → Act → World → Prop} (w : World) (hg : o.guard = none) (s x : Operand) (t : TypeId)
    (hop : o.op = .call { callee := .builtin .append, args := #[s, x], argTypes := #[t, t] })
    (B : Nat) (e : TypeId) (z : Value) (size bytes : Nat) (hu : P.underlying t = some (.slice e)) (hi : (P.info? e).map (fun i => (i.zero, i.size, i.bytes)) = some (some z, size, bytes))
    (hzs : z.cells.size = size) (hsz : 0 < size) (v : Value) (n : Nat) (xs : List Value) (hs : a.eval s = v) (hown : w.ownsRow B e size v n xs)
    (us : List Value) {g : Nat} (hgw : w.heap.size = g) (hx : a.eval x = .slice (some ⟨g, 0, none⟩) 1 1) (hl : us.length = size) (h1 : ∀ u ∈ us, u.oneCell' = true)
    (h63 : n + 1 ≤ maxLen) (hbytes : (n + 1) * bytes ≤ 140737488355328) (hB : B ≤ w.heap.size)
    (h : ∀ v' w', w'.ownsRow B e size v' (n + 1) (xs ++ us) → (w.alloc (.cells us.toArray e)).grownBy w' v.ownBlock → Below B w w' → wpList P ops Q rest (a.put o.dst v') w') :
    wpList P ops Q (o :: rest) a (w.alloc (.cells us.toArray e)) := by
  subst hgw
  exact wpList_app w hg s x t hop B e z size bytes hu hi hzs hsz v n xs hs hown us hx hl h1 h63 hbytes hB h
theorem lcsV_snoc (l : List Lc) (x : Lc) : lcsV (l ++ [x]) = lcsV l ++ lcV x := by simp [lcsV]
set_option maxHeartbeats 2000000 in
theorem waits_any (g b0 b1 : Nat) (v : Value) (d : Dv) (hn : d.ws.length ≤ 100000) (w : World) (h : DvAt w g b0 b1 v d) :
    Calls Tryd.prog 20 #[.pointer (some ⟨g, 0, none⟩)] w fun e w' => ∃ u, e = .returned u ∧ w'.ownsRow w.heap.size 33 2 u d.ws.length (lcsV (d.ws.map Wr.loc)) ∧ Below w.heap.size w w' := by
  obtain ⟨A, c, rfl, _, _⟩ := h.form
  have y4 := h.cell4.1
  go_enter Tryd.func20, Tryd.ntmps20
  go_wp2_with fail
  go_loopw [3, 13] (fun u i wr => ∃ k : Nat, k ≤ d.ws.length ∧ i = .int .i64 k ∧ wr.ownsRow w.heap.size 33 2 u k (lcsV ((d.ws.take k).map Wr.loc)) ∧ Below w.heap.size w wr) (fun _ i _ => d.ws.length - (intOf i).toNat)
  case atStart => exact ⟨0, by omega, rfl, World.ownsRow_nil _ _ _ _, Below.refl _ _⟩
  case round =>
    obtain ⟨k, hk, rfl, hu, hbel⟩ := hrel
    by_cases hlt : k < d.ws.length
    · have hd := h.below hbel
      have hown := hd.hw.row (by omega)
      obtain ⟨gr, rfl⟩ : ∃ gr, A = some ⟨gr, 0, none⟩ := by
        rcases hown.2 with ⟨_, h0⟩ | ⟨gr, cap, cur, e, _⟩
        · omega
        · simp at e; exact ⟨gr, e.1⟩
      obtain ⟨g1, g2, g3⟩ := wrsV_get d.ws k hlt
      have y0 := hown.cellAt (k * 3) (by omega)
      have y1 := hown.cellAt (k * 3 + 1) (by omega)
      have y2 := hown.cellAt (k * 3 + 2) (by omega)
      rw [g1] at y0
      rw [g2] at y1
      rw [g3] at y2
      have hsz := hbel.size
      have htk : (d.ws.take (k + 1)).map Wr.loc = (d.ws.take k).map Wr.loc ++ [d.ws[k].loc] := by rw [List.take_succ_eq_append_getElem hlt, List.map_append]; rfl
      have HTK := Lib.hid htk
      have F1 : k + 1 ≤ maxLen := by unfold maxLen; omega
      have F2 : (k + 1) * 16 ≤ 140737488355328 := by omega
      have F1 := Lib.hid F1
      have F2 := Lib.hid F2
      clear htk g1 g2 g3 hown hd
      go_wp2_with (at_builtin; refine wpList_app2 (P := Tryd.prog) _ rfl _ _ 23 rfl w.heap.size 33 (.agg #[.int .i64 0, .int .i64 0]) 2 16 Tryd.underlying23 loc_info rfl (by decide) _ k (lcsV ((d.ws.take k).map Wr.loc)) rfl (hu.alloc _) _ (g := wr.heap.size + 1) (by simp) rfl rfl ?c1 F1.out F2.out (by simp; omega) ?_)
      case c1 => intro u hu; simp at hu; rcases hu with rfl | rfl <;> rfl
      intro v' w10 hown10 hgrow10 hb10
      have hb11 : Below w.heap.size w w10 := (hbel.alloc hsz _).trans hb10
      go_wp2
      go_round
      case rel => exact ⟨k + 1, by omega, by go_num, by rw [HTK.out, lcsV_snoc]; simpa [lcV, List.map_take] using hown10, hb11⟩
      case measure => simp [intOf]; omega
    · obtain rfl : k = d.ws.length := by omega
      rw [List.take_length] at hu
      go_wp2
      go_ret
      exact ⟨_, rfl, hu, hbel⟩

end Go.Proofs.YtmdjbmhjnajpgaaDoor
namespace Go.Proofs.YtmdjbmhjnajpgaaDoor
open Go.RowKit
set_option linter.unusedSimpArgs false
set_option linter.unnecessarySimpa false
set_option linter.unusedVariables false

theorem alloc_cell {w : World} {g i : Nat} {u : Value} (h : w.cell? ⟨g, i, none⟩ = some u) (hg : g < w.heap.size) (o : Obj) : (w.alloc o).cell? ⟨g, i, none⟩ = some u := by
  rw [(((Below.refl w.heap.size w).alloc (Nat.le_refl _) o).cell (p := ⟨g, i, none⟩) hg)]; exact h

set_option maxHeartbeats 1000000 in
theorem ls1_any (kb : Nat) (dv : Int) (x : Wr) (w : World) (h : Blk w kb 3 #[.int .i64 dv]) :
    Calls Tryd.prog 36 #[.agg #[.int .i64 x.loc.dev, .int .i64 x.loc.pos, .string (bstr x.text)], .pointer (some ⟨kb, 0, none⟩)] w fun e w' => e = .returned (.bool (x.loc.dev == dv)) ∧ Below w.heap.size w w' := by
  have c0 := h.cell 0
  simp at c0
  have c1 := fun o => alloc_cell c0 h.lt o
  go_enter Tryd.func36, Tryd.ntmps36
  go_wp2
  go_ret
  exact ⟨rfl, (Below.refl _ _).alloc (Nat.le_refl _) _⟩

theorem lc_eq (a b : Lc) : a = b ↔ a.dev = b.dev ∧ a.pos = b.pos := by
  cases a; cases b; simp
set_option maxHeartbeats 1000000 in
theorem sp1_any (kb : Nat) (l : Lc) (x : Wr) (w : World) (h : Blk w kb 33 #[.int .i64 l.dev, .int .i64 l.pos]) :
    Calls Tryd.prog 29 #[.agg #[.int .i64 x.loc.dev, .int .i64 x.loc.pos, .string (bstr x.text)], .pointer (some ⟨kb, 0, none⟩)] w fun e w' => e = .returned (.bool (decide (x.loc = l))) ∧ Below w.heap.size w w' := by
  have c0 := h.cell 0
  have d0 := h.cell 1
  simp at c0 d0
  have c1 := fun o => alloc_cell c0 h.lt o
  have d1 := fun o => alloc_cell d0 h.lt o
  go_enter Tryd.func29, Tryd.ntmps29
  go_wp2
  all_goals go_ret
  all_goals exact ⟨ret_bool (by first | (simp_all [lc_eq]; done) | (rw [Bool.eq_iff_iff]; simp_all [lc_eq]; done)), (Below.refl _ _).alloc (Nat.le_refl _) _⟩

end Go.Proofs.YtmdjbmhjnajpgaaDoor
namespace Go.Proofs.YtmdjbmhjnajpgaaDoor
open Go.RowKit
set_option linter.unusedSimpArgs false
set_option linter.unnecessarySimpa false
set_option linter.unusedVariables false

/-- the first one of a list that p holds of; -1: there is none -/
def IsFirst (p : Wr → Bool) (l : List Wr) (i : Int) : Prop := (i = -1 ∧ ∀ x ∈ l, p x = false) ∨ (∃ k, ∃ h : k < l.length, i = (k : Int) ∧ p l[k] = true ∧ ∀ x ∈ l.take k, p x = false)

set_option maxHeartbeats 1000000 in
theorem idxl_any (v : Value) (l : List Wr) (kb : Nat) (w : World) (dv : Int) (hb : Blk w kb 3 #[.int .i64 dv]) (hown : Owns w 67 3 v l.length (wrsV l)) (hn : l.length ≤ 100000) :
    Calls Tryd.prog 55 #[v, .func (.func 36) #[] #[.pointer (some ⟨kb, 0, none⟩)]] w fun e w' => (∃ i : Int, e = .returned (.int .i64 i) ∧ IsFirst (fun x => x.loc.dev == dv) l i) ∧ Below w.heap.size w w' := by
  obtain ⟨A, c, rfl, _, _⟩ := hown.form
  go_enter Tryd.func55, Tryd.ntmps55
  go_wp2_with fail
  go_loopw [8] (fun i wr => ∃ k : Nat, k ≤ l.length ∧ i = .int .i64 k ∧ (∀ x ∈ l.take k, (fun x => x.loc.dev == dv) x = false) ∧ Below w.heap.size w wr) (fun i _ => l.length - (intOf i).toNat)
  case atStart => exact ⟨0, by omega, rfl, by simp, Below.refl _ _⟩
  case round =>
    obtain ⟨k, hk, rfl, hno, hbel⟩ := hrel
    have HNO := Lib.hid hno
    clear hno
    have hsz := hbel.size
    by_cases hlt : k < l.length
    · have ho := (hown.below hbel).row (by omega)
      obtain ⟨gr, rfl⟩ : ∃ gr, A = some ⟨gr, 0, none⟩ := by
        rcases ho.2 with ⟨_, h0⟩ | ⟨gr, cap, cur, e, _⟩
        · omega
        · simp at e; exact ⟨gr, e.1⟩
      obtain ⟨g1, g2, g3⟩ := wrsV_get l k hlt
      have y0 := ho.cellAt (k * 3) (by omega)
      have y1 := ho.cellAt (k * 3 + 1) (by omega)
      have y2 := ho.cellAt (k * 3 + 2) (by omega)
      rw [g1] at y0
      rw [g2] at y1
      rw [g3] at y2
      clear g1 g2 g3 ho
      obtain ⟨b, hb2⟩ : ∃ b, (fun x => x.loc.dev == dv) l[k] = b := ⟨_, rfl⟩
      have HB := Lib.hid hb2
      go_wp2_with fail
      refine (ls1_any kb dv l[k] wr (hb.below hbel hb.lt)).mono ?_
      rintro e w1 ⟨rfl, b1⟩
      try simp only at hb2
      rw [hb2]
      clear hb2
      cases b
      · go_wp2
        go_round
        case rel =>
          refine ⟨k + 1, by omega, by go_num, ?_, hbel.trans (b1.mono hsz)⟩
          intro x hx
          rw [List.take_succ_eq_append_getElem hlt] at hx
          rcases List.mem_append.1 hx with hx | hx
          · exact HNO.out x hx
          · simp at hx; subst hx; exact HB.out
        case measure => simp [intOf]; omega
      · go_wp2
        go_ret
        exact ⟨⟨k, rfl, .inr ⟨k, hlt, rfl, HB.out, HNO.out⟩⟩, hbel.trans (b1.mono hsz)⟩
    · obtain rfl : k = l.length := by omega
      go_wp2
      go_ret
      have hh := HNO.out
      rw [List.take_length] at hh
      exact ⟨⟨-1, rfl, .inl ⟨rfl, hh⟩⟩, hbel⟩

set_option maxHeartbeats 1000000 in
theorem idxs_any (v : Value) (l : List Wr) (kb : Nat) (w : World) (lc : Lc) (hb : Blk w kb 33 #[.int .i64 lc.dev, .int .i64 lc.pos]) (hown : Owns w 67 3 v l.length (wrsV l)) (hn : l.length ≤ 100000) :
    Calls Tryd.prog 55 #[v, .func (.func 29) #[] #[.pointer (some ⟨kb, 0, none⟩)]] w fun e w' => (∃ i : Int, e = .returned (.int .i64 i) ∧ IsFirst (fun x => decide (x.loc = lc)) l i) ∧ Below w.heap.size w w' := by
  obtain ⟨A, c, rfl, _, _⟩ := hown.form
  go_enter Tryd.func55, Tryd.ntmps55
  go_wp2_with fail
  go_loopw [8] (fun i wr => ∃ k : Nat, k ≤ l.length ∧ i = .int .i64 k ∧ (∀ x ∈ l.take k, (fun x => decide (x.loc = lc)) x = false) ∧ Below w.heap.size w wr) (fun i _ => l.length - (intOf i).toNat)
  case atStart => exact ⟨0, by omega, rfl, by simp, Below.refl _ _⟩
  case round =>
    obtain ⟨k, hk, rfl, hno, hbel⟩ := hrel
    have HNO := Lib.hid hno
    clear hno
    have hsz := hbel.size
    by_cases hlt : k < l.length
    · have ho := (hown.below hbel).row (by omega)
      obtain ⟨gr, rfl⟩ : ∃ gr, A = some ⟨gr, 0, none⟩ := by
        rcases ho.2 with ⟨_, h0⟩ | ⟨gr, cap, cur, e, _⟩
        · omega
        · simp at e; exact ⟨gr, e.1⟩
      obtain ⟨g1, g2, g3⟩ := wrsV_get l k hlt
      have y0 := ho.cellAt (k * 3) (by omega)
      have y1 := ho.cellAt (k * 3 + 1) (by omega)
      have y2 := ho.cellAt (k * 3 + 2) (by omega)
      rw [g1] at y0
      rw [g2] at y1
      rw [g3] at y2
      clear g1 g2 g3 ho
      obtain ⟨b, hb2⟩ : ∃ b, (fun x => decide (x.loc = lc)) l[k] = b := ⟨_, rfl⟩
      have HB := Lib.hid hb2
      go_wp2_with fail
      refine (sp1_any kb lc l[k] wr (hb.below hbel hb.lt)).mono ?_
      rintro e w1 ⟨rfl, b1⟩
      try simp only at hb2
      rw [hb2]
      clear hb2
      cases b
      · go_wp2
        go_round
        case rel =>
          refine ⟨k + 1, by omega, by go_num, ?_, hbel.trans (b1.mono hsz)⟩
          intro x hx
          rw [List.take_succ_eq_append_getElem hlt] at hx
          rcases List.mem_append.1 hx with hx | hx
          · exact HNO.out x hx
          · simp at hx; subst hx; exact HB.out
        case measure => simp [intOf]; omega
      · go_wp2
        go_ret
        exact ⟨⟨k, rfl, .inr ⟨k, hlt, rfl, HB.out, HNO.out⟩⟩, hbel.trans (b1.mono hsz)⟩
    · obtain rfl : k = l.length := by omega
      go_wp2
      go_ret
      have hh := HNO.out
      rw [List.take_length] at hh
      exact ⟨⟨-1, rfl, .inl ⟨rfl, hh⟩⟩, hbel⟩

end Go.Proofs.YtmdjbmhjnajpgaaDoor
namespace Go.Proofs.YtmdjbmhjnajpgaaDoor
open Go.RowKit
set_option linter.unusedSimpArgs false
set_option linter.unnecessarySimpa false
set_option linter.unusedVariables false

/-- what slices.DeleteFunc has done when it has come to element j -/
structure Kept (p : Wr → Bool) (l : List Wr) (j i : Nat) (cur : List Wr) : Prop where
  len : cur.length = l.length
  lt : i < j
  le : j ≤ l.length
  low : cur.take i = (l.take j).filter fun x => !p x
  high : cur.drop j = l.drop j
theorem Kept.at {p : Wr → Bool} {l : List Wr} {j i : Nat} {cur : List Wr} (h : Kept p l j i cur) (hj : j < l.length) : cur[j]'(by have := h.len; omega) = l[j] := by
  have e1 := List.getElem?_drop (xs := cur) (i := j) (j := 0)
  have e2 := List.getElem?_drop (xs := l) (i := j) (j := 0)
  rw [h.high] at e1
  rw [e1] at e2
  have hl := h.len
  rw [Nat.add_zero, List.getElem?_eq_getElem (by omega), List.getElem?_eq_getElem hj] at e2
  simpa using e2
theorem Kept.skip {p : Wr → Bool} {l : List Wr} {j i : Nat} {cur : List Wr} (h : Kept p l j i cur) (hj : j < l.length) (hp : p l[j] = true) : Kept p l (j + 1) i cur := by
  refine ⟨h.len, by have := h.lt; omega, hj, ?_, ?_⟩
  · rw [List.take_succ_eq_append_getElem hj, List.filter_append, h.low]; simp [hp]
  · have := congrArg (List.drop 1) h.high
    simpa [List.drop_drop] using this
theorem Kept.keep {p : Wr → Bool} {l : List Wr} {j i : Nat} {cur : List Wr} (h : Kept p l j i cur) (hj : j < l.length) (hp : p l[j] = false) : Kept p l (j + 1) (i + 1) (cur.set i l[j]) := by
  have hl := h.len
  have hlt := h.lt
  refine ⟨by simpa using h.len, by omega, hj, ?_, ?_⟩
  · have hi : i < (cur.set i l[j]).length := by rw [List.length_set]; omega
    rw [List.take_succ_eq_append_getElem hi, List.take_set_of_le (Nat.le_refl _), List.getElem_set_self, List.take_succ_eq_append_getElem hj, List.filter_append, h.low]
    simp [hp]
  · rw [List.drop_set_of_lt (by omega)]
    have := congrArg (List.drop 1) h.high
    simpa [List.drop_drop] using this
theorem Kept.start {p : Wr → Bool} {l : List Wr} {k : Nat} (hk : k < l.length) (hp : p l[k] = true) (hno : ∀ x ∈ l.take k, p x = false) : Kept p l (k + 1) k l := by
  refine ⟨rfl, by omega, hk, ?_, rfl⟩
  rw [List.take_succ_eq_append_getElem hk, List.filter_append]
  simp [hp]
  rw [List.filter_eq_self.2]
  intro x hx
  simp [hno x hx]
theorem Kept.done {p : Wr → Bool} {l : List Wr} {i : Nat} {cur : List Wr} (h : Kept p l l.length i cur) : cur.take i = l.filter fun x => !p x := by
  have := h.low
  rwa [List.take_length] at this
theorem wrsV_set : ∀ (l : List Wr) (i : Nat) (x : Wr), (((wrsV l).set (i * 3) (.int .i64 x.loc.dev)).set (i * 3 + 1) (.int .i64 x.loc.pos)).set (i * 3 + 2) (.string (bstr x.text)) = wrsV (l.set i x)
  | [], i, x => by simp [wrsV]
  | a :: l, 0, x => by simp [wrsV, wrV]
  | a :: l, i + 1, x => by
    have ih := wrsV_set l i x
    have e : ∀ (b : Wr) (m : List Wr), wrsV (b :: m) = .int .i64 b.loc.dev :: .int .i64 b.loc.pos :: .string (bstr b.text) :: wrsV m := fun _ _ => rfl
    rw [List.set_cons_succ, e, e, show (i + 1) * 3 = i * 3 + 1 + 1 + 1 by omega, ← ih]
    simp [List.set_cons_succ]
theorem wrsV_take (l : List Wr) : ∀ i, (wrsV l).take (i * 3) = wrsV (l.take i) := by
  induction l with
  | nil => intro i; simp [wrsV]
  | cons a l ih =>
    intro i
    cases i with
    | zero => simp [wrsV]
    | succ i =>
      have e : ∀ (b : Wr) (m : List Wr), wrsV (b :: m) = .int .i64 b.loc.dev :: .int .i64 b.loc.pos :: .string (bstr b.text) :: wrsV m := fun _ _ => rfl
      rw [List.take_succ_cons, e, e, show (i + 1) * 3 = i * 3 + 1 + 1 + 1 by omega, ← ih i]
      simp [List.take_succ_cons]
theorem wrsV_len (l : List Wr) : (wrsV l).length = l.length * 3 := by
  induction l with
  | nil => rfl
  | cons a l ih =>
    have e : ∀ (b : Wr) (m : List Wr), wrsV (b :: m) = .int .i64 b.loc.dev :: .int .i64 b.loc.pos :: .string (bstr b.text) :: wrsV m := fun _ _ => rfl
    rw [e]; simp [ih]; omega

def zWr : Wr := ⟨⟨0, 0⟩, []⟩
theorem zero_wr (w : World) : (zeroValue 67).run Tryd.prog w = .ok (.agg #[.int .i64 0, .int .i64 0, .string ⟨#[]⟩]) w := by kernel_rfl

set_option maxHeartbeats 2000000 in
theorem dell_any (v : Value) (l : List Wr) (kb : Nat) (w : World) (dv : Int) (hb : Blk w kb 3 #[.int .i64 dv]) (hown : Owns w 67 3 v l.length (wrsV l)) (hn : l.length ≤ 100000) :
    Calls Tryd.prog 42 #[v, .func (.func 36) #[] #[.pointer (some ⟨kb, 0, none⟩)]] w fun e w' => (∃ v', e = .returned v' ∧ Owns w' 67 3 v' (l.filter (fun x => !(fun x => x.loc.dev == dv) x)).length (wrsV (l.filter (fun x => !(fun x => x.loc.dev == dv) x))) ∧ zblock v' = zblock v) ∧ Keep w.heap.size (fun k => zblock v = some k) w w' := by
  obtain ⟨A, c, rfl, hlc, hcm⟩ := hown.form
  go_enter Tryd.func42, Tryd.ntmps42
  go_wp2_with fail
  refine (idxl_any _ l kb w dv hb hown hn).mono ?_
  rintro e w1 ⟨⟨i, rfl, hi⟩, b1⟩
  rcases hi with ⟨rfl, hno⟩ | ⟨k, hk, rfl, hp, hno⟩
  · have hfil : l.filter (fun x => !(fun x => x.loc.dev == dv) x) = l := List.filter_eq_self.2 (fun x hx => by have := hno x hx; simpa using this)
    have ho1 := Lib.hid (hown.below b1)
    have HF := Lib.hid hfil
    clear hno hfil hown
    go_wp2
    go_ret
    exact ⟨⟨_, rfl, by rw [HF.out]; exact ho1.out, rfl⟩, Keep.of_below b1⟩
  · have q1 : ((k : Int) == -1) = false := beq_eq_false_iff_ne.2 (by omega)
    obtain ⟨gr, rfl⟩ : ∃ gr, A = some ⟨gr, 0, none⟩ := by
      rcases (hown.row (by omega)).2 with ⟨_, h0⟩ | ⟨gr, cap, cur, e, _⟩
      · omega
      · simp at e; exact ⟨gr, e.1⟩
    have hst := Lib.hid (Kept.start (p := fun x => x.loc.dev == dv) hk hp hno)
    have zr : Hid (zblock (.slice (some ⟨gr, 0, none⟩) l.length c) = some gr) := by rw [zblock_some (by omega)]; exact Lib.hid rfl
    have hbr : kb ≠ gr := by
      intro e; subst e
      exact (row_ne (hown.row (by omega)) hb (by decide)) rfl
    have hbl := hb.lt
    have hown1 := (hown.below b1).row (by omega)
    have bsz := b1.size
    clear hown hp hno
    go_wp2
    go_loopw [5, 6] (fun u5 u6 wr => ∃ (i j : Nat) (cur : List Wr), u5 = .int .i64 i ∧ u6 = .int .i64 j ∧ Hid (Kept (fun x => x.loc.dev == dv) l j i cur) ∧ j ≤ l.length ∧ i < j ∧ wr.ownsRow 0 67 3 (.slice (some ⟨gr, 0, none⟩) l.length c) l.length (wrsV cur) ∧ Keep w.heap.size (· = gr) w wr) (fun _ u6 _ => l.length - (intOf u6).toNat)
    case atStart => exact ⟨k, k + 1, l, rfl, by go_num, hst, by omega, by omega, hown1, Keep.of_below b1⟩
    case round =>
      obtain ⟨i, j, cur, rfl, rfl, HK, hjl, hij, ho, kw⟩ := hrel
      have hcl : Hid (cur.length = l.length) := Lib.hid HK.out.len
      have ksz := kw.size
      by_cases hlt : j < l.length
      · obtain ⟨g1, g2, g3⟩ := wrsV_get cur j (by rw [hcl.out]; exact hlt)
        have y0 := ho.cellAt (j * 3) (by omega)
        have y1 := ho.cellAt (j * 3 + 1) (by omega)
        have y2 := ho.cellAt (j * 3 + 2) (by omega)
        rw [g1] at y0
        rw [g2] at y1
        rw [g3] at y2
        rw [HK.out.at hlt] at y0 y1 y2
        clear g1 g2 g3
        obtain ⟨b, hb2⟩ : ∃ b, (fun x => x.loc.dev == dv) l[j] = b := ⟨_, rfl⟩
        have HB := Lib.hid hb2
        go_wp2_with fail
        obtain ⟨w5, hw5⟩ : ∃ x, wr.alloc (.cells #[.int .i64 l[j].loc.dev, .int .i64 l[j].loc.pos, .string (bstr l[j].text)] 67) = x := ⟨_, rfl⟩
        obtain ⟨gl, hgl⟩ : ∃ g, wr.heap.size = g := ⟨_, rfl⟩
        have bl : Below wr.heap.size wr w5 := by rw [← hw5]; exact (Below.refl _ _).alloc (Nat.le_refl _) _
        have hl : Blk w5 gl 67 #[.int .i64 l[j].loc.dev, .int .i64 l[j].loc.pos, .string (bstr l[j].text)] := by rw [← hw5, ← hgl]; exact Blk.new _ _ _
        have hgr := row_lt ho
        rw [hw5]
        try rw [hgl]
        clear y0 y1 y2
        refine (ls1_any kb dv l[j] w5 ((hb.keep kw hbl hbr).below bl (by omega))).mono ?_
        rintro e w6 ⟨rfl, b6⟩
        try simp only at hb2
        rw [hb2]
        clear hb2
        have ho6 := row_below (row_below ho bl) b6
        have hl6 := hl.below b6 hl.lt
        have k6 : Keep w.heap.size (· = gr) w w6 := (kw.trans ((Keep.of_below bl).mono (B' := w.heap.size) (S' := (· = gr)) ksz (fun _ _ h => h))).trans ((Keep.of_below b6).mono (B' := w.heap.size) (S' := (· = gr)) (by have := bl.size; omega) (fun _ _ h => h))
        cases b
        · obtain ⟨d1, d2, d3⟩ := wrsV_get cur i (by rw [hcl.out]; omega)
          have x0 := ho6.cellAt (i * 3) (by omega)
          have x1 := ho6.cellAt (i * 3 + 1) (by omega)
          have x2 := ho6.cellAt (i * 3 + 2) (by omega)
          rw [d1] at x0
          rw [d2] at x1
          rw [d3] at x2
          clear d1 d2 d3
          have f0 := ho6.frozenAt (i * 3)
          have f1 := ho6.frozenAt (i * 3 + 1)
          have f2 := ho6.frozenAt (i * 3 + 2)
          have z0 := hl6.cell 0
          have z1 := hl6.cell 1
          have z2 := hl6.cell 2
          simp at z0 z1 z2
          have hfin : ((((w6.setCell ⟨gr, i * 3, none⟩ (.int .i64 l[j].loc.dev)).setCell ⟨gr, i * 3 + 1, none⟩ (.int .i64 l[j].loc.pos)).setCell ⟨gr, i * 3 + 2, none⟩ (.string (bstr l[j].text))).ownsRow 0 67 3 (.slice (some ⟨gr, 0, none⟩) l.length c) l.length (wrsV (cur.set i l[j]))) := by
            rw [← wrsV_set]
            exact ((((ho6.stored (i * 3) _).1).stored (i * 3 + 1) _).1.stored (i * 3 + 2) _).1
          have HFIN := Lib.hid hfin
          clear hfin
          have ho6' := Lib.hid ho6
          clear ho6
          go_wp2
          go_round
          case rel => exact ⟨i + 1, j + 1, cur.set i l[j], by go_num, by go_num, Lib.hid (HK.out.keep hlt HB.out), by omega, by omega, HFIN.out, ((k6.set1 _ _).set1 _ _).set1 _ _⟩
          case measure => simp [intOf]; omega
        · go_wp2
          go_round
          case rel => exact ⟨i, j + 1, cur, rfl, by go_num, Lib.hid (HK.out.skip hlt HB.out), by omega, by omega, ho6, k6⟩
          case measure => simp [intOf]; omega
      · obtain rfl : j = l.length := by omega
        obtain ⟨w9, hcl9, ho9, hg9⟩ := row_cleared (P := Tryd.prog) wr 58 67 _ 3 Tryd.underlying58 zero_wr rfl (by simp [Value.cells, Value.oneCell']) gr l.length c (c - i) i (l.length - i) (wrsV cur) ho (by omega) (by omega)
        have hfin : Hid (w9.ownsRow 0 67 3 (.slice (some ⟨gr, 0, none⟩) i c) i (wrsV (cur.take i))) := by
          have := row_cut ho9 (i := i) (by omega)
          rw [List.take_append_of_le_length (by rw [List.length_take, wrsV_len, hcl.out]; omega), List.take_take, Nat.min_self, wrsV_take] at this
          exact Lib.hid this
        have kw9 : Keep w.heap.size (· = gr) w w9 := kw.grown hg9 (fun k e _ => by cases e; rfl) ksz
        have hlen : Hid ((l.filter (fun x => !(fun x => x.loc.dev == dv) x)).length = i) := by
          rw [← HK.out.done, List.length_take, hcl.out]; exact Lib.hid (by omega)
        clear ho9 ho
        go_wp2
        go_ret
        refine ⟨⟨.slice (some ⟨gr, 0, none⟩) i c, rfl, ?_, ?_⟩, kw9.mono (Nat.le_refl _) (fun k _ e => by rw [zr.out, e])⟩
        · have e1 := HK.out.done
          rw [← e1]
          have e2 : (cur.take i).length = i := by rw [List.length_take, hcl.out]; omega
          rw [e2]
          exact Owns.of hfin.out (by omega)
        · rw [zr.out, zblock_some (by omega)]

set_option maxHeartbeats 2000000 in
theorem dels_any (v : Value) (l : List Wr) (kb : Nat) (w : World) (lc : Lc) (hb : Blk w kb 33 #[.int .i64 lc.dev, .int .i64 lc.pos]) (hown : Owns w 67 3 v l.length (wrsV l)) (hn : l.length ≤ 100000) :
    Calls Tryd.prog 42 #[v, .func (.func 29) #[] #[.pointer (some ⟨kb, 0, none⟩)]] w fun e w' => (∃ v', e = .returned v' ∧ Owns w' 67 3 v' (l.filter (fun x => !(fun x => decide (x.loc = lc)) x)).length (wrsV (l.filter (fun x => !(fun x => decide (x.loc = lc)) x))) ∧ zblock v' = zblock v) ∧ Keep w.heap.size (fun k => zblock v = some k) w w' := by
  obtain ⟨A, c, rfl, hlc, hcm⟩ := hown.form
  go_enter Tryd.func42, Tryd.ntmps42
  go_wp2_with fail
  refine (idxs_any _ l kb w lc hb hown hn).mono ?_
  rintro e w1 ⟨⟨i, rfl, hi⟩, b1⟩
  rcases hi with ⟨rfl, hno⟩ | ⟨k, hk, rfl, hp, hno⟩
  · have hfil : l.filter (fun x => !(fun x => decide (x.loc = lc)) x) = l := List.filter_eq_self.2 (fun x hx => by have := hno x hx; simpa using this)
    have ho1 := Lib.hid (hown.below b1)
    have HF := Lib.hid hfil
    clear hno hfil hown
    go_wp2
    go_ret
    exact ⟨⟨_, rfl, by rw [HF.out]; exact ho1.out, rfl⟩, Keep.of_below b1⟩
  · have q1 : ((k : Int) == -1) = false := beq_eq_false_iff_ne.2 (by omega)
    obtain ⟨gr, rfl⟩ : ∃ gr, A = some ⟨gr, 0, none⟩ := by
      rcases (hown.row (by omega)).2 with ⟨_, h0⟩ | ⟨gr, cap, cur, e, _⟩
      · omega
      · simp at e; exact ⟨gr, e.1⟩
    have hst := Lib.hid (Kept.start (p := fun x => decide (x.loc = lc)) hk hp hno)
    have zr : Hid (zblock (.slice (some ⟨gr, 0, none⟩) l.length c) = some gr) := by rw [zblock_some (by omega)]; exact Lib.hid rfl
    have hbr : kb ≠ gr := by
      intro e; subst e
      exact (row_ne (hown.row (by omega)) hb (by decide)) rfl
    have hbl := hb.lt
    have hown1 := (hown.below b1).row (by omega)
    have bsz := b1.size
    clear hown hp hno
    go_wp2
    go_loopw [5, 6] (fun u5 u6 wr => ∃ (i j : Nat) (cur : List Wr), u5 = .int .i64 i ∧ u6 = .int .i64 j ∧ Hid (Kept (fun x => decide (x.loc = lc)) l j i cur) ∧ j ≤ l.length ∧ i < j ∧ wr.ownsRow 0 67 3 (.slice (some ⟨gr, 0, none⟩) l.length c) l.length (wrsV cur) ∧ Keep w.heap.size (· = gr) w wr) (fun _ u6 _ => l.length - (intOf u6).toNat)
    case atStart => exact ⟨k, k + 1, l, rfl, by go_num, hst, by omega, by omega, hown1, Keep.of_below b1⟩
    case round =>
      obtain ⟨i, j, cur, rfl, rfl, HK, hjl, hij, ho, kw⟩ := hrel
      have hcl : Hid (cur.length = l.length) := Lib.hid HK.out.len
      have ksz := kw.size
      by_cases hlt : j < l.length
      · obtain ⟨g1, g2, g3⟩ := wrsV_get cur j (by rw [hcl.out]; exact hlt)
        have y0 := ho.cellAt (j * 3) (by omega)
        have y1 := ho.cellAt (j * 3 + 1) (by omega)
        have y2 := ho.cellAt (j * 3 + 2) (by omega)
        rw [g1] at y0
        rw [g2] at y1
        rw [g3] at y2
        rw [HK.out.at hlt] at y0 y1 y2
        clear g1 g2 g3
        obtain ⟨b, hb2⟩ : ∃ b, (fun x => decide (x.loc = lc)) l[j] = b := ⟨_, rfl⟩
        have HB := Lib.hid hb2
        go_wp2_with fail
        obtain ⟨w5, hw5⟩ : ∃ x, wr.alloc (.cells #[.int .i64 l[j].loc.dev, .int .i64 l[j].loc.pos, .string (bstr l[j].text)] 67) = x := ⟨_, rfl⟩
        obtain ⟨gl, hgl⟩ : ∃ g, wr.heap.size = g := ⟨_, rfl⟩
        have bl : Below wr.heap.size wr w5 := by rw [← hw5]; exact (Below.refl _ _).alloc (Nat.le_refl _) _
        have hl : Blk w5 gl 67 #[.int .i64 l[j].loc.dev, .int .i64 l[j].loc.pos, .string (bstr l[j].text)] := by rw [← hw5, ← hgl]; exact Blk.new _ _ _
        have hgr := row_lt ho
        rw [hw5]
        try rw [hgl]
        clear y0 y1 y2
        refine (sp1_any kb lc l[j] w5 ((hb.keep kw hbl hbr).below bl (by omega))).mono ?_
        rintro e w6 ⟨rfl, b6⟩
        try simp only at hb2
        rw [hb2]
        clear hb2
        have ho6 := row_below (row_below ho bl) b6
        have hl6 := hl.below b6 hl.lt
        have k6 : Keep w.heap.size (· = gr) w w6 := (kw.trans ((Keep.of_below bl).mono (B' := w.heap.size) (S' := (· = gr)) ksz (fun _ _ h => h))).trans ((Keep.of_below b6).mono (B' := w.heap.size) (S' := (· = gr)) (by have := bl.size; omega) (fun _ _ h => h))
        cases b
        · obtain ⟨d1, d2, d3⟩ := wrsV_get cur i (by rw [hcl.out]; omega)
          have x0 := ho6.cellAt (i * 3) (by omega)
          have x1 := ho6.cellAt (i * 3 + 1) (by omega)
          have x2 := ho6.cellAt (i * 3 + 2) (by omega)
          rw [d1] at x0
          rw [d2] at x1
          rw [d3] at x2
          clear d1 d2 d3
          have f0 := ho6.frozenAt (i * 3)
          have f1 := ho6.frozenAt (i * 3 + 1)
          have f2 := ho6.frozenAt (i * 3 + 2)
          have z0 := hl6.cell 0
          have z1 := hl6.cell 1
          have z2 := hl6.cell 2
          simp at z0 z1 z2
          have hfin : ((((w6.setCell ⟨gr, i * 3, none⟩ (.int .i64 l[j].loc.dev)).setCell ⟨gr, i * 3 + 1, none⟩ (.int .i64 l[j].loc.pos)).setCell ⟨gr, i * 3 + 2, none⟩ (.string (bstr l[j].text))).ownsRow 0 67 3 (.slice (some ⟨gr, 0, none⟩) l.length c) l.length (wrsV (cur.set i l[j]))) := by
            rw [← wrsV_set]
            exact ((((ho6.stored (i * 3) _).1).stored (i * 3 + 1) _).1.stored (i * 3 + 2) _).1
          have HFIN := Lib.hid hfin
          clear hfin
          have ho6' := Lib.hid ho6
          clear ho6
          go_wp2
          go_round
          case rel => exact ⟨i + 1, j + 1, cur.set i l[j], by go_num, by go_num, Lib.hid (HK.out.keep hlt HB.out), by omega, by omega, HFIN.out, ((k6.set1 _ _).set1 _ _).set1 _ _⟩
          case measure => simp [intOf]; omega
        · go_wp2
          go_round
          case rel => exact ⟨i, j + 1, cur, rfl, by go_num, Lib.hid (HK.out.skip hlt HB.out), by omega, by omega, ho6, k6⟩
          case measure => simp [intOf]; omega
      · obtain rfl : j = l.length := by omega
        obtain ⟨w9, hcl9, ho9, hg9⟩ := row_cleared (P := Tryd.prog) wr 58 67 _ 3 Tryd.underlying58 zero_wr rfl (by simp [Value.cells, Value.oneCell']) gr l.length c (c - i) i (l.length - i) (wrsV cur) ho (by omega) (by omega)
        have hfin : Hid (w9.ownsRow 0 67 3 (.slice (some ⟨gr, 0, none⟩) i c) i (wrsV (cur.take i))) := by
          have := row_cut ho9 (i := i) (by omega)
          rw [List.take_append_of_le_length (by rw [List.length_take, wrsV_len, hcl.out]; omega), List.take_take, Nat.min_self, wrsV_take] at this
          exact Lib.hid this
        have kw9 : Keep w.heap.size (· = gr) w w9 := kw.grown hg9 (fun k e _ => by cases e; rfl) ksz
        have hlen : Hid ((l.filter (fun x => !(fun x => decide (x.loc = lc)) x)).length = i) := by
          rw [← HK.out.done, List.length_take, hcl.out]; exact Lib.hid (by omega)
        clear ho9 ho
        go_wp2
        go_ret
        refine ⟨⟨.slice (some ⟨gr, 0, none⟩) i c, rfl, ?_, ?_⟩, kw9.mono (Nat.le_refl _) (fun k _ e => by rw [zr.out, e])⟩
        · have e1 := HK.out.done
          rw [← e1]
          have e2 : (cur.take i).length = i := by rw [List.length_take, hcl.out]; omega
          rw [e2]
          exact Owns.of hfin.out (by omega)
        · rw [zr.out, zblock_some (by omega)]

end Go.Proofs.YtmdjbmhjnajpgaaDoor
namespace Go.Proofs.YtmdjbmhjnajpgaaDoor
open Go.RowKit
set_option linter.unusedSimpArgs false
set_option linter.unnecessarySimpa false
set_option linter.unusedVariables false

theorem DvAt.setWs' {w w1 : World} {g b0 b1 : Nat} {v u : Value} {d : Dv} {l : List Wr} (h : DvAt w g b0 b1 v d) (hk : Keep w.heap.size (fun k => zblock v = some k) w w1) (hu : Owns w1 67 3 u l.length (wrsV l)) : DvAt (w1.setCell ⟨g, 4, none⟩ u) g b0 b1 u { d with ws := l } := by
  obtain ⟨c0, c1, hg, h0, h1⟩ := h.hx
  have n0 := h.ng0
  have n1 := h.ng1
  have hg1 := hg.keep hk hg.lt h.zg
  have r0 := row_keep h0 hk (fun k e => by cases e; exact ⟨row_lt h0, h.z0⟩)
  have r1 := row_keep h1 hk (fun k e => by cases e; exact ⟨row_lt h1, h.z1⟩)
  refine ⟨⟨c0, c1, ?_, row_set r0 (by intro e; cases e; exact n0 rfl) _, row_set r1 (by intro e; cases e; exact n1 rfl) _⟩, hu.set (hu.ne hg1 (by decide)) _, h.ne⟩
  have := hg1.set_ 4 u
  simpa using this
theorem DvAt.cell4' {w w1 : World} {g b0 b1 : Nat} {v : Value} {d : Dv} (h : DvAt w g b0 b1 v d) (hk : Keep w.heap.size (fun k => zblock v = some k) w w1) : w1.cell? ⟨g, 4, none⟩ = some v ∧ w1.frozen? ⟨g, 4, none⟩ = false := by
  obtain ⟨c0, c1, hg, h0, h1⟩ := h.hx
  have hg1 := hg.keep hk hg.lt h.zg
  have y := hg1.cell 4
  simp at y
  exact ⟨y, hg1.frozen 4⟩

set_option maxHeartbeats 1000000 in
theorem forl_any (g b0 b1 : Nat) (v : Value) (d : Dv) (kb : Nat) (w : World) (dv : Int) (hb : Blk w kb 3 #[.int .i64 dv]) (hn : d.ws.length ≤ 100000) (h : DvAt w g b0 b1 v d) :
    Calls Tryd.prog 28 #[.pointer (some ⟨g, 0, none⟩), .func (.func 36) #[] #[.pointer (some ⟨kb, 0, none⟩)]] w fun e w' => (∃ v', e = .returned (.tuple #[]) ∧ DvAt w' g b0 b1 v' { d with ws := d.ws.filter (fun x => !(x.loc.dev == dv)) } ∧ zblock v' = zblock v) ∧ Keep w.heap.size (fun k => k = g ∨ zblock v = some k) w w' := by
  obtain ⟨y4, f4⟩ := h.cell4
  go_enter Tryd.func28, Tryd.ntmps28
  go_wp2_with fail
  refine (dell_any v d.ws kb w dv hb h.hw hn).mono ?_
  rintro e w1 ⟨⟨v', rfl, hu, hz⟩, k1⟩
  obtain ⟨z4, f5⟩ := h.cell4' k1
  have hd := h.setWs' k1 hu
  have HD := Lib.hid hd
  clear hd y4 f4
  obtain ⟨A, c, rfl, _, _⟩ := hu.form
  go_wp2
  go_end0
  exact ⟨⟨_, rfl, HD.out, hz⟩, (k1.mono (Nat.le_refl _) (fun _ _ h => .inr h)).setCell (p := ⟨g, 4, none⟩) (.inr (.inl rfl)) _⟩
set_option maxHeartbeats 1000000 in
theorem fors_any (g b0 b1 : Nat) (v : Value) (d : Dv) (kb : Nat) (w : World) (lc : Lc) (hb : Blk w kb 33 #[.int .i64 lc.dev, .int .i64 lc.pos]) (hn : d.ws.length ≤ 100000) (h : DvAt w g b0 b1 v d) :
    Calls Tryd.prog 28 #[.pointer (some ⟨g, 0, none⟩), .func (.func 29) #[] #[.pointer (some ⟨kb, 0, none⟩)]] w fun e w' => (∃ v', e = .returned (.tuple #[]) ∧ DvAt w' g b0 b1 v' { d with ws := d.ws.filter (fun x => !decide (x.loc = lc)) } ∧ zblock v' = zblock v) ∧ Keep w.heap.size (fun k => k = g ∨ zblock v = some k) w w' := by
  obtain ⟨y4, f4⟩ := h.cell4
  go_enter Tryd.func28, Tryd.ntmps28
  go_wp2_with fail
  refine (dels_any v d.ws kb w lc hb h.hw hn).mono ?_
  rintro e w1 ⟨⟨v', rfl, hu, hz⟩, k1⟩
  obtain ⟨z4, f5⟩ := h.cell4' k1
  have hd := h.setWs' k1 hu
  have HD := Lib.hid hd
  clear hd y4 f4
  obtain ⟨A, c, rfl, _, _⟩ := hu.form
  go_wp2
  go_end0
  exact ⟨⟨_, rfl, HD.out, hz⟩, (k1.mono (Nat.le_refl _) (fun _ _ h => .inr h)).setCell (p := ⟨g, 4, none⟩) (.inr (.inl rfl)) _⟩

theorem zero_str (w : World) : (zeroValue 9).run Tryd.prog w = .ok (.string ⟨#[]⟩) w := by kernel_rfl
theorem zeros_strs (n : Nat) : (Builtin.zeroCells (Value.string ⟨#[]⟩).cells n).toList = secV (List.replicate n []) := by
  simp only [Value.cells, Builtin.zeroCells, secV]
  apply List.ext_getElem
  · simp
  · intro i h1 h2
    simp [Nat.mod_one]

set_option maxHeartbeats 2000000 in
theorem lose0 (g b0 b1 : Nat) (v : Value) (d : Dv) (hs : 0 < d.s0.length) (hn : d.ws.length ≤ 100000) (w : World) (h : DvAt w g b0 b1 v d) :
    Calls Tryd.prog 16 #[.pointer (some ⟨g, 0, none⟩), .int .i64 0] w fun e w' => (∃ v', e = .returned (.int .i64 0) ∧ DvAt w' g b0 b1 v' { d with s0 := List.replicate d.s0.length [], l0 := true, ws := d.ws.filter (fun x => !(x.loc.dev == 0)) } ∧ zblock v' = zblock v) ∧ Keep w.heap.size (dvB g b0 b1 v) w w' := by
  go_enter Tryd.func16, Tryd.ntmps16
  go_wp2_with fail
  obtain ⟨kb, hkb⟩ : ∃ g, w.heap.size = g := ⟨_, rfl⟩
  obtain ⟨w0, hw0⟩ : ∃ x, w.alloc (.cells #[.int .i64 0] 3) = x := ⟨_, rfl⟩
  have bx : Below w.heap.size w w0 := by rw [← hw0]; exact (Below.refl _ _).alloc (Nat.le_refl _) _
  have hx : Blk w0 kb 3 #[.int .i64 0] := by rw [← hw0, ← hkb]; exact Blk.new _ _ _
  rw [hw0]
  try rw [hkb]
  have h0 := h.below bx
  refine (is_to (show isB 0 = true from rfl) g w0).mono ?_
  rintro e _ ⟨rfl, rfl⟩
  obtain ⟨c0, c1, hg, r0, r1⟩ := h0.hx
  have y0 := hg.cell 0
  have y2 := hg.cell 2
  have f2 := hg.frozen 2
  simp at y0 y2
  have x0 := hx.cell 0
  simp at x0
  have nkg : kb ≠ g := by have := h.lt (k := g) (.inl rfl); omega
  have z0 : ∀ u, (w0.drew.setCell ⟨g, 2, none⟩ u).cell? ⟨kb, 0, none⟩ = some (.int .i64 0) := fun u => by have := ((hx.drew).far (p := ⟨g, 2, none⟩) nkg u).cell 0; simpa using this
  go_wp2_with fail
  go_region_held3 (fun w' => w'.cell? ⟨kb, 0, none⟩ = some (.int .i64 0))
    (first | exact x0 | exact z0 _ | go_keep)
    (fail)
  obtain ⟨w2, hw2⟩ : ∃ x, (w0.setCell ⟨g, 2, none⟩ (.bool true)).drew = x := ⟨_, rfl⟩
  rw [hw2]
  have hd2 : DvAt w2 g b0 b1 v { d with l0 := true } := by
    rw [← hw2]
    have n0 := h.ng0
    have n1 := h.ng1
    refine DvAt.drew ⟨⟨c0, c1, ?_, row_set r0 (by intro e; cases e; exact n0 rfl) _, row_set r1 (by intro e; cases e; exact n1 rfl) _⟩, h0.hw.set h0.zg _, h.ne⟩
    have := hg.set_ 2 (.bool true)
    simpa using this
  have k2 : Keep w.heap.size (· = g) w w2 := by rw [← hw2]; exact ((Keep.of_below bx).set1 _ _).drew
  have hx2 : Blk w2 kb 3 #[.int .i64 0] := by rw [← hw2]; exact (hx.far (p := ⟨g, 2, none⟩) nkg _).drew
  clear x0 y0 y2 f2 z0 hg r0 r1
  obtain ⟨e0, e1, hg, r0, r1⟩ := hd2.hx
  obtain ⟨w9, hcl9, ho9, hg9⟩ := row_cleared (P := Tryd.prog) w2.drew 55 9 _ 1 Tryd.underlying55 zero_str rfl (by simp [Value.cells, Value.oneCell']) b0 d.s0.length e0 e0 0 d.s0.length (secV d.s0) r0.drew (by omega) hs
  have x0 := hx2.cell 0
  have y0 := hg.cell 0
  simp at x0 y0
  have hlt0 : (0 : Int) < d.s0.length := by omega
  have nb := h.lt (k := b0) (.inr (.inl rfl))
  have nkb : kb ≠ b0 := by omega
  have hg9' := hg.drew.grown hg9 (fun e => by cases e; exact h.ng0 rfl)
  have hx9' := hx2.drew.grown hg9 (fun e => by cases e; exact nkb rfl)
  have x9 := hx9'.cell 0
  have y9 := hg9'.cell 0
  simp at x9 y9
  go_wp2_with fail
  go_region_held3 (fun w' => w'.cell? ⟨kb, 0, none⟩ = some (.int .i64 0) ∧ w'.cell? ⟨g, 0, none⟩ = some (.slice (some ⟨b0, 0, none⟩) d.s0.length e0))
    (first | exact ⟨x0, y0⟩ | exact ⟨x9, y9⟩ | go_keep)
    (fail)
  have hd9 : DvAt w9 g b0 b1 v { d with s0 := List.replicate d.s0.length [], l0 := true } := by
    refine ⟨⟨e0, e1, by simpa using hg9', ?_, row_grown r1.drew hg9 (fun k e => by cases e; intro e; cases e; exact h.ne rfl)⟩, hd2.hw.drew.grown hg9 (fun k e e2 => by cases e2; exact h.z0 e), h.ne⟩
    rw [Nat.zero_mul, List.take_zero, List.nil_append, zeros_strs] at ho9
    simpa using ho9
  have k9 : Keep w.heap.size (dvB g b0 b1 v) w w9 := (k2.mono (Nat.le_refl _) (fun _ _ e => .inl e)).drew.grown hg9 (fun k e _ => by cases e; exact .inr (.inl rfl)) k2.size
  clear x0 y0 x9 y9 hg r0 r1 hg9' ho9 hg9 hcl9
  go_wp2_with fail
  refine (forl_any g b0 b1 v { d with s0 := List.replicate d.s0.length [], l0 := true } kb w9 0 hx9' hn hd9).mono ?_
  rintro e w10 ⟨⟨v', rfl, hd10, hz⟩, k10⟩
  go_wp2
  go_ret
  exact ⟨⟨v', rfl, hd10, hz⟩, k9.trans (k10.mono k9.size (fun k _ e => by rcases e with e | e; exact .inl e; exact .inr (.inr (.inr e))))⟩

set_option maxHeartbeats 2000000 in
theorem lose1 (g b0 b1 : Nat) (v : Value) (d : Dv) (hs : 0 < d.s1.length) (hn : d.ws.length ≤ 100000) (w : World) (h : DvAt w g b0 b1 v d) :
    Calls Tryd.prog 16 #[.pointer (some ⟨g, 0, none⟩), .int .i64 1] w fun e w' => (∃ v', e = .returned (.int .i64 0) ∧ DvAt w' g b0 b1 v' { d with s1 := List.replicate d.s1.length [], l1 := true, ws := d.ws.filter (fun x => !(x.loc.dev == 1)) } ∧ zblock v' = zblock v) ∧ Keep w.heap.size (dvB g b0 b1 v) w w' := by
  go_enter Tryd.func16, Tryd.ntmps16
  go_wp2_with fail
  obtain ⟨kb, hkb⟩ : ∃ g, w.heap.size = g := ⟨_, rfl⟩
  obtain ⟨w0, hw0⟩ : ∃ x, w.alloc (.cells #[.int .i64 1] 3) = x := ⟨_, rfl⟩
  have bx : Below w.heap.size w w0 := by rw [← hw0]; exact (Below.refl _ _).alloc (Nat.le_refl _) _
  have hx : Blk w0 kb 3 #[.int .i64 1] := by rw [← hw0, ← hkb]; exact Blk.new _ _ _
  rw [hw0]
  try rw [hkb]
  have h0 := h.below bx
  refine (is_to (show isB 1 = true from rfl) g w0).mono ?_
  rintro e _ ⟨rfl, rfl⟩
  obtain ⟨c0, c1, hg, r0, r1⟩ := h0.hx
  have y0 := hg.cell 1
  have y2 := hg.cell 3
  have f2 := hg.frozen 3
  simp at y0 y2
  have x0 := hx.cell 0
  simp at x0
  have nkg : kb ≠ g := by have := h.lt (k := g) (.inl rfl); omega
  have z0 : ∀ u, (w0.drew.setCell ⟨g, 3, none⟩ u).cell? ⟨kb, 0, none⟩ = some (.int .i64 1) := fun u => by have := ((hx.drew).far (p := ⟨g, 3, none⟩) nkg u).cell 0; simpa using this
  go_wp2_with fail
  go_region_held3 (fun w' => w'.cell? ⟨kb, 0, none⟩ = some (.int .i64 1))
    (first | exact x0 | exact z0 _ | go_keep)
    (fail)
  obtain ⟨w2, hw2⟩ : ∃ x, (w0.setCell ⟨g, 3, none⟩ (.bool true)).drew = x := ⟨_, rfl⟩
  rw [hw2]
  have hd2 : DvAt w2 g b0 b1 v { d with l1 := true } := by
    rw [← hw2]
    have n0 := h.ng0
    have n1 := h.ng1
    refine DvAt.drew ⟨⟨c0, c1, ?_, row_set r0 (by intro e; cases e; exact n0 rfl) _, row_set r1 (by intro e; cases e; exact n1 rfl) _⟩, h0.hw.set h0.zg _, h.ne⟩
    have := hg.set_ 3 (.bool true)
    simpa using this
  have k2 : Keep w.heap.size (· = g) w w2 := by rw [← hw2]; exact ((Keep.of_below bx).set1 _ _).drew
  have hx2 : Blk w2 kb 3 #[.int .i64 1] := by rw [← hw2]; exact (hx.far (p := ⟨g, 3, none⟩) nkg _).drew
  clear x0 y0 y2 f2 z0 hg r0 r1
  obtain ⟨e0, e1, hg, r0, r1⟩ := hd2.hx
  obtain ⟨w9, hcl9, ho9, hg9⟩ := row_cleared (P := Tryd.prog) w2.drew 55 9 _ 1 Tryd.underlying55 zero_str rfl (by simp [Value.cells, Value.oneCell']) b1 d.s1.length e1 e1 0 d.s1.length (secV d.s1) r1.drew (by omega) hs
  have x0 := hx2.cell 0
  have y0 := hg.cell 1
  simp at x0 y0
  have hlt0 : (1 : Int) < 2 := by omega
  have nb := h.lt (k := b1) (.inr (.inr (.inl rfl)))
  have nkb : kb ≠ b1 := by omega
  have hg9' := hg.drew.grown hg9 (fun e => by cases e; exact h.ng1 rfl)
  have hx9' := hx2.drew.grown hg9 (fun e => by cases e; exact nkb rfl)
  have x9 := hx9'.cell 0
  have y9 := hg9'.cell 1
  simp at x9 y9
  go_wp2_with fail
  go_region_held3 (fun w' => w'.cell? ⟨kb, 0, none⟩ = some (.int .i64 1) ∧ w'.cell? ⟨g, 1, none⟩ = some (.slice (some ⟨b1, 0, none⟩) d.s1.length e1))
    (first | exact ⟨x0, y0⟩ | exact ⟨x9, y9⟩ | go_keep)
    (fail)
  have hd9 : DvAt w9 g b0 b1 v { d with s1 := List.replicate d.s1.length [], l1 := true } := by
    refine ⟨⟨e0, e1, by simpa using hg9', row_grown r0.drew hg9 (fun k e => by cases e; intro e; cases e; exact h.ne rfl), ?_⟩, hd2.hw.drew.grown hg9 (fun k e e2 => by cases e2; exact h.z1 e), h.ne⟩
    rw [Nat.zero_mul, List.take_zero, List.nil_append, zeros_strs] at ho9
    simpa using ho9
  have k9 : Keep w.heap.size (dvB g b0 b1 v) w w9 := (k2.mono (Nat.le_refl _) (fun _ _ e => .inl e)).drew.grown hg9 (fun k e _ => by cases e; exact .inr (.inr (.inl rfl))) k2.size
  clear x0 y0 x9 y9 hg r0 r1 hg9' ho9 hg9 hcl9
  go_wp2_with fail
  refine (forl_any g b0 b1 v { d with s1 := List.replicate d.s1.length [], l1 := true } kb w9 1 hx9' hn hd9).mono ?_
  rintro e w10 ⟨⟨v', rfl, hd10, hz⟩, k10⟩
  go_wp2
  go_ret
  exact ⟨⟨v', rfl, hd10, hz⟩, k9.trans (k10.mono k9.size (fun k _ e => by rcases e with e | e; exact .inl e; exact .inr (.inr (.inr e))))⟩

/-- a sector is spoilt: what waits for it waits no more -/
def Dv.spoil (d : Dv) (x : Wr) : Dv := ({ d with ws := d.ws.filter (fun y => !decide (y.loc = x.loc)) } : Dv).put x
set_option maxHeartbeats 1000000 in
theorem spoil_ok (g b0 b1 : Nat) (v : Value) (d : Dv) (l : Lc) (s : List UInt8) (he : Hid (mayE d l s = 0)) (hn : d.ws.length ≤ 100000) (w : World) (h : DvAt w g b0 b1 v d) :
    Calls Tryd.prog 11 #[.pointer (some ⟨g, 0, none⟩), .agg #[.int .i64 l.dev, .int .i64 l.pos], .string (bstr s)] w fun e w' => (∃ v', e = .returned (.int .i64 0) ∧ DvAt w' g b0 b1 v' (d.spoil ⟨l, s⟩) ∧ zblock v' = zblock v) ∧ Keep w.heap.size (dvB g b0 b1 v) w w' := by
  go_enter Tryd.func11, Tryd.ntmps11
  go_wp2_with fail
  obtain ⟨kb, hkb⟩ : ∃ g, w.heap.size = g := ⟨_, rfl⟩
  obtain ⟨w0, hw0⟩ : ∃ x, w.alloc (.cells #[.int .i64 l.dev, .int .i64 l.pos] 33) = x := ⟨_, rfl⟩
  have bx : Below w.heap.size w w0 := by rw [← hw0]; exact (Below.refl _ _).alloc (Nat.le_refl _) _
  have hx : Blk w0 kb 33 #[.int .i64 l.dev, .int .i64 l.pos] := by rw [← hw0, ← hkb]; exact Blk.new _ _ _
  rw [hw0]
  try rw [hkb]
  have h0 := h.below bx
  refine (may_to he.out g b0 b1 v w0 h0).mono ?_
  rintro e w1 ⟨rfl, c1⟩
  have h1 := h0.below c1
  have hx1 := hx.below c1 hx.lt
  have k1 := bx.trans (c1.mono bx.size)
  go_wp2_with fail
  refine (fors_any g b0 b1 v d kb w1 l hx1 hn h1).mono ?_
  rintro e w2 ⟨⟨v', rfl, hd2, hz⟩, k2⟩
  have nkg : kb ≠ g := by have := h.lt (k := g) (.inl rfl); omega
  have hkv : zblock v ≠ some kb := by intro e; have := h.hw.lt e; omega
  have hx2 := hx1.keep k2 hx1.lt (by rintro (e | e); exact nkg e; exact hkv e)
  have y0 := hx2.cell 0
  have y1 := hx2.cell 1
  simp at y0 y1
  have hhas : Hid (({ d with ws := d.ws.filter (fun y => !decide (y.loc = l)) } : Dv).has (⟨l, s⟩ : Wr).loc) := by
    have := he.out
    unfold mayE at this
    split at this
    · cases this
    · rename_i hh
      simp at hh
      refine Lib.hid ⟨?_, hh.2.1, ?_⟩
      · simpa using hh.1
      · have := hh.2.2.1
        unfold Dv.sec at this ⊢
        exact this
  go_wp2_with fail
  refine (dput_any g b0 b1 v' { d with ws := d.ws.filter (fun y => !decide (y.loc = l)) } ⟨l, s⟩ hhas.out w2 hd2).mono ?_
  rintro e w3 ⟨rfl, hd3, k3⟩
  go_wp2
  go_ret
  exact ⟨⟨v', rfl, hd3, hz⟩, ((Keep.of_below k1).trans (k2.mono k1.size (fun k _ e => by rcases e with e | e; exact .inl e; exact .inr (.inr (.inr e))))).trans (k3.mono (Nat.le_trans k1.size k2.size) (fun k _ e => by rcases e with e | e; exact .inr (.inl e); exact .inr (.inr (.inl e))))⟩
theorem spoil_bad {e0 : Int} (g b0 b1 : Nat) (v : Value) (d : Dv) (l : Lc) (s : List UInt8) (he : Hid (mayE d l s = e0)) (hz : (e0 != 0) = true) (w : World) (h : DvAt w g b0 b1 v d) :
    Calls Tryd.prog 11 #[.pointer (some ⟨g, 0, none⟩), .agg #[.int .i64 l.dev, .int .i64 l.pos], .string (bstr s)] w fun e w' => e = .returned (.int .i64 e0) ∧ Below w.heap.size w w' := by
  go_enter Tryd.func11, Tryd.ntmps11
  go_wp2_with fail
  obtain ⟨G, hG⟩ : ∃ g, w.heap.size = g := ⟨_, rfl⟩
  obtain ⟨w0, hw0⟩ : ∃ x, w.alloc (.cells #[.int .i64 l.dev, .int .i64 l.pos] 33) = x := ⟨_, rfl⟩
  have bx : Below w.heap.size w w0 := by rw [← hw0]; exact (Below.refl _ _).alloc (Nat.le_refl _) _
  rw [hw0]
  try rw [hG]
  refine (may_to he.out g b0 b1 v w0 (h.below bx)).mono ?_
  rintro e w1 ⟨rfl, c1⟩
  go_wp2
  go_ret
  exact ⟨rfl, bx.trans (c1.mono bx.size)⟩
theorem spoil_nil (l : Lc) (s : List UInt8) (w : World) :
    Calls Tryd.prog 11 #[.pointer none, .agg #[.int .i64 l.dev, .int .i64 l.pos], .string (bstr s)] w fun e w' => e = .returned (.int .i64 1) ∧ Below w.heap.size w w' := by
  go_enter Tryd.func11, Tryd.ntmps11
  go_wp2_with fail
  obtain ⟨G, hG⟩ : ∃ g, w.heap.size = g := ⟨_, rfl⟩
  obtain ⟨w0, hw0⟩ : ∃ x, w.alloc (.cells #[.int .i64 l.dev, .int .i64 l.pos] 33) = x := ⟨_, rfl⟩
  have bx : Below w.heap.size w w0 := by rw [← hw0]; exact (Below.refl _ _).alloc (Nat.le_refl _) _
  rw [hw0]
  try rw [hG]
  refine (may_nil l s w0).mono ?_
  rintro e w1 ⟨rfl, c1⟩
  go_wp2
  go_ret
  exact ⟨rfl, bx.trans (c1.mono bx.size)⟩
theorem lose_bad (g b0 b1 : Nat) (v : Value) (d : Dv) (dev : Int) (hb : Hid (isB dev = false)) (w : World) (h : DvAt w g b0 b1 v d) :
    Calls Tryd.prog 16 #[.pointer (some ⟨g, 0, none⟩), .int .i64 dev] w fun e w' => e = .returned (.int .i64 1) ∧ Below w.heap.size w w' := by
  go_enter Tryd.func16, Tryd.ntmps16
  go_wp2_with fail
  obtain ⟨G, hG⟩ : ∃ g, w.heap.size = g := ⟨_, rfl⟩
  obtain ⟨w0, hw0⟩ : ∃ x, w.alloc (.cells #[.int .i64 dev] 3) = x := ⟨_, rfl⟩
  have bx : Below w.heap.size w w0 := by rw [← hw0]; exact (Below.refl _ _).alloc (Nat.le_refl _) _
  rw [hw0]
  try rw [hG]
  refine (is_to hb.out g w0).mono ?_
  rintro e _ ⟨rfl, rfl⟩
  go_wp2
  go_ret
  exact ⟨rfl, bx⟩
theorem lose_nil (dev : Int) (w : World) :
    Calls Tryd.prog 16 #[.pointer none, .int .i64 dev] w fun e w' => e = .returned (.int .i64 1) ∧ Below w.heap.size w w' := by
  go_enter Tryd.func16, Tryd.ntmps16
  go_wp2_with fail
  obtain ⟨G, hG⟩ : ∃ g, w.heap.size = g := ⟨_, rfl⟩
  obtain ⟨w0, hw0⟩ : ∃ x, w.alloc (.cells #[.int .i64 dev] 3) = x := ⟨_, rfl⟩
  have bx : Below w.heap.size w w0 := by rw [← hw0]; exact (Below.refl _ _).alloc (Nat.le_refl _) _
  rw [hw0]
  try rw [hG]
  refine (is_nil dev w0).mono ?_
  rintro e _ ⟨rfl, rfl⟩
  go_wp2
  go_ret
  exact ⟨rfl, bx⟩

theorem done_nil (f : Value) (w : World) :
    Calls Tryd.prog 33 #[.pointer none, f] w fun e w' => e = .returned (.int .i64 1) ∧ w = w' := by
  go_enter Tryd.func33, Tryd.ntmps33
  go_wp2
  go_ret
  exact ⟨rfl, rfl⟩
theorem flush_nil (w : World) :
    Calls Tryd.prog 15 #[.pointer none] w fun e w' => e = .returned (.int .i64 1) ∧ w = w' := by
  go_enter Tryd.func15, Tryd.ntmps15
  go_wp2_with fail
  refine (done_nil _ w).mono ?_
  rintro e _ ⟨rfl, rfl⟩
  go_wp2
  go_ret
  exact ⟨rfl, rfl⟩
theorem crash_nil (A : Option Addr) (n c : Nat) (w : World) :
    Calls Tryd.prog 21 #[.pointer none, .slice A n c] w fun e w' => e = .returned (.int .i64 1) ∧ Below w.heap.size w w' := by
  go_enter Tryd.func21, Tryd.ntmps21
  go_wp2_with fail
  obtain ⟨kb, hkb⟩ : ∃ g, w.heap.size = g := ⟨_, rfl⟩
  obtain ⟨w0, hw0⟩ : ∃ x, w.alloc (.cells #[.slice A n c] 48) = x := ⟨_, rfl⟩
  have bx : Below w.heap.size w w0 := by rw [← hw0]; exact (Below.refl _ _).alloc (Nat.le_refl _) _
  rw [hw0]
  try rw [hkb]
  refine (done_nil _ w0).mono ?_
  rintro e _ ⟨rfl, rfl⟩
  go_wp2
  go_ret
  exact ⟨rfl, bx⟩
theorem waits_nil (w : World) :
    Calls Tryd.prog 20 #[.pointer none] w fun e w' => e = .returned (.slice none 0 0) ∧ w = w' := by
  go_enter Tryd.func20, Tryd.ntmps20
  go_wp2
  go_ret
  exact ⟨rfl, rfl⟩

end Go.Proofs.YtmdjbmhjnajpgaaDoor
namespace Go.Proofs.YtmdjbmhjnajpgaaDoor
open Go.RowKit
set_option linter.unusedSimpArgs false
set_option linter.unnecessarySimpa false
set_option linter.unusedVariables false

theorem row_cells {w : World} {e : TypeId} {size b n c : Nat} {xs : List Value} (h : w.ownsRow 0 e size (.slice (some ⟨b, 0, none⟩) n c) n xs) : ∀ j u, xs[j]? = some u → w.cell? ((⟨b, 0, none⟩ : Addr).add j) = some u := h.cells rfl
theorem str_info : (Tryd.prog.info? 9).map (fun i => (i.zero, i.size, i.bytes)) = some (some (.string ⟨#[]⟩), 1, 16) := by kernel_rfl








end Go.Proofs.YtmdjbmhjnajpgaaDoor
namespace Go.Proofs.YtmdjbmhjnajpgaaDoor
open Go.RowKit Go.Shelf
set_option linter.unusedSimpArgs false
set_option linter.unnecessarySimpa false
set_option linter.unusedVariables false

attribute [local go_sem] Oper.semAt_some

/-- an index and a write -/
abbrev IW := Nat × Wr
def encIW (x : IW) : Array Value := #[.int .i64 (x.1 : Int), .agg #[.int .i64 x.2.loc.dev, .int .i64 x.2.loc.pos, .string (bstr x.2.text)]]
/-- what has come: the last ones of l, from behind, down to place m -/
def Came (l : List Wr) (m : Nat) (pre : List IW) : Prop := m ≤ l.length ∧ pre.map Prod.snd = (l.drop m).reverse
theorem Came.start (l : List Wr) : Came l l.length [] := ⟨Nat.le_refl _, by simp⟩
theorem Came.next {l : List Wr} {m : Nat} {pre : List IW} (h : Came l (m + 1) pre) (hm : m < l.length) : Came l m (pre ++ [(m, l[m])]) := by
  refine ⟨by omega, ?_⟩
  rw [List.map_append, h.2, List.drop_eq_getElem_cons hm, List.reverse_cons]
  rfl
theorem Came.len {l : List Wr} {m : Nat} {pre : List IW} (h : Came l m pre) : pre.length = l.length - m := by
  have := congrArg List.length h.2
  simpa using this

set_option maxRecDepth 100000 in
set_option maxHeartbeats 4000000 in
theorem bw1_in (F : Fence) (n : Nat) (hf : F.fn 69) (hro : F.round = none) (hn : 1 ≤ n) (lp Bs n0 gr c : Nat) (l : List Wr) (hl : l.length ≤ 100000) (hpos : 0 < l.length) (hgr : gr < n0) (hbs : Bs < n0) (J Jx : List IW → World → Prop)
    (hY : ∀ pre x W, J pre W → pre.length < l.length → YieldAt F (n - 1) Tryd.prog lp (encIW x) W fun e W' =>
      (e = .returned (.bool true) ∧ J (pre ++ [x]) W' ∧ Below n0 W W') ∨ (e = .returned (.bool false) ∧ Jx (pre ++ [x]) W'))
    (W : World) (hBs : W.cell? ⟨Bs, 0, none⟩ = some (.slice (some ⟨gr, 0, none⟩) l.length c)) (hc : W.ownsRow 0 67 3 (.slice (some ⟨gr, 0, none⟩) l.length c) l.length (wrsV l)) (h0 : J [] W) :
    CallsIn F n Tryd.prog 69 #[.func (.yield lp) #[] #[], .pointer (some ⟨Bs, 0, none⟩)] W fun e W' => (∃ v, e = .returned v) ∧
      ((∃ ys, Came l 0 ys ∧ J ys W') ∨ (∃ pre, (∃ m, Came l m pre) ∧ Jx pre W')) := by
  refine callsIn_of_wp Tryd.func69 rfl hf ?_ hro
  simp only [Tryd.ntmps69, List.size_toArray, List.length_cons, List.length_nil, Nat.reduceAdd, Nat.reduceSub, Array.replicate_succ, Array.replicate_zero, List.push_toArray, List.append_toArray, List.nil_append, List.cons_append]
  obtain ⟨q, hq⟩ : ∃ q : Nat, l.length = q + 1 := ⟨l.length - 1, by omega⟩
  have hqi : ((l.length : Nat) : Int) - 1 = (q : Int) := by omega
  gi_wp2
  gi_loopw [3] (fun i wr => Below n0 W wr ∧ ((∃ k : Nat, k < l.length ∧ i = .int .i64 k ∧ ∃ pre, Came l (k + 1) pre ∧ J pre wr) ∨ (i = .int .i64 (-1) ∧ ∃ pre, Came l 0 pre ∧ J pre wr))) (fun i _ => (intOf i + 1).toNat)
  case atStart => exact ⟨Below.refl _ _, .inl ⟨q, by omega, by first | rfl | go_num | (congr 1; omega), [], by rw [← hq]; exact Came.start l, h0⟩⟩
  case round =>
    obtain ⟨hnx, ⟨k, hk, rfl, pre, hcame, hJ⟩ | ⟨rfl, pre, hcame, hJ⟩⟩ := hrel
    · have ho := row_moved (w' := wr) hc (fun j e => by cases e; exact hnx.block _ hgr)
      have cB : wr.cell? ⟨Bs, 0, none⟩ = some (.slice (some ⟨gr, 0, none⟩) l.length c) := (hnx.cell (p := ⟨Bs, 0, none⟩) hbs).trans hBs
      obtain ⟨g1, g2, g3⟩ := wrsV_get l k hk
      have y0 := ho.cellAt (k * 3) (by omega)
      have y1 := ho.cellAt (k * 3 + 1) (by omega)
      have y2 := ho.cellAt (k * 3 + 2) (by omega)
      rw [g1] at y0
      rw [g2] at y1
      rw [g3] at y2
      have hcl := hcame.len
      have HC := Lib.hid (hcame.next hk)
      obtain ⟨fn, tmps, assign, body, hy, hR⟩ := hY pre (k, l[k]) wr hJ (by omega)
      clear g1 g2 g3 ho hc hBs hcame hcl hq hqi
      simp only [encIW] at hy
      gi_wp2
      refine hR.mono ?_
      rintro e W3 (⟨rfl, hJ3, hk3⟩ | ⟨rfl, hJx3⟩)
      · gi_wp2
        go_roundw
        case rel =>
          refine ⟨hnx.trans hk3, ?_⟩
          rcases Nat.eq_zero_or_pos k with rfl | hpk
          · exact .inr ⟨by rfl, _, HC.out, hJ3⟩
          · exact .inl ⟨k - 1, by omega, by congr 1; omega, _, by rw [Nat.sub_add_cancel hpk]; exact HC.out, hJ3⟩
        case measure => first | (simp [intOf]; done) | (simp [intOf]; omega)
      · gi_wp2
        refine bodyPost_ret (results_none rfl _ _ _) rfl ?_
        exact ⟨⟨_, rfl⟩, .inr ⟨_, ⟨_, HC.out⟩, hJx3⟩⟩
    · gi_wp2
      go_end0
      exact ⟨⟨_, rfl⟩, .inl ⟨_, hcame, hJ⟩⟩

set_option maxRecDepth 100000 in
set_option maxHeartbeats 1000000 in
theorem bw1_nil_in (F : Fence) (n : Nat) (hf : F.fn 69) (hro : F.round = none) (lp Bs c : Nat) (A : Option Addr) (J : List IW → World → Prop)
    (W : World) (hBs : W.cell? ⟨Bs, 0, none⟩ = some (.slice A 0 c)) (h0 : J [] W) :
    CallsIn F n Tryd.prog 69 #[.func (.yield lp) #[] #[], .pointer (some ⟨Bs, 0, none⟩)] W fun e W' => (∃ v, e = .returned v) ∧ J [] W' := by
  refine callsIn_of_wp Tryd.func69 rfl hf ?_ hro
  simp only [Tryd.ntmps69, List.size_toArray, List.length_cons, List.length_nil, Nat.reduceAdd, Nat.reduceSub, Array.replicate_succ, Array.replicate_zero, List.push_toArray, List.append_toArray, List.nil_append, List.cons_append]
  gi_wp2
  gi_loopw [3] (fun i wr => i = .int .i64 (-1) ∧ J [] wr) (fun _ _ => 0)
  case atStart => exact ⟨rfl, h0⟩
  case round =>
    obtain ⟨rfl, hJs⟩ := hrel
    gi_wp2
    go_end0
    exact ⟨⟨_, rfl⟩, hJs⟩

theorem bw_stops (F : Fence) (n : Nat) (hf : F.fn 69) (hro : F.round = none) (hn : 1 ≤ n) (Bs n0 : Nat) (v : Value) (l : List Wr) (hl : l.length ≤ 100000) (w : World) (hbs : Bs < n0) (hn0 : n0 ≤ w.heap.size)
    (hc : w.cell? ⟨Bs, 0, none⟩ = some v) (ho : Owns w 67 3 v l.length (wrsV l)) (hv : ∀ k, zblock v = some k → k < n0) :
    SeqStopsK F n Tryd.prog 69 #[.pointer (some ⟨Bs, 0, none⟩)] encIW (Below n0) (Came l 0) (fun pre => ∃ m, Came l m pre) l.length w := fun lp J Jx W hW _ _ hY h0 => by
  have hc' := (hW.cell (p := ⟨Bs, 0, none⟩) (Nat.lt_of_lt_of_le hbs hn0)).trans hc
  have ho' := ho.below hW
  by_cases hpos : 0 < l.length
  · have hr := ho'.row hpos
    obtain ⟨gr, c, rfl, _, _⟩ := hr.form hpos
    have hgr : gr < n0 := by
      refine hv gr ?_
      rw [ho'.zb hpos]
      rfl
    exact bw1_in F n hf hro hn lp Bs n0 gr c l hl hpos hgr hbs J Jx hY W hc' hr h0
  · have e : l = [] := List.eq_nil_of_length_eq_zero (by omega)
    subst e
    obtain ⟨A, c, rfl, _, _⟩ := ho.form
    exact (bw1_nil_in F n hf hro lp Bs c A J W hc' h0).mono fun e W' ⟨he, hj⟩ => ⟨he, .inl ⟨[], ⟨Nat.le_refl _, rfl⟩, hj⟩⟩

set_option maxHeartbeats 400000 in
theorem bw_any (A : Option Addr) (len cap : Nat) (w : World) :
    Calls Tryd.prog 61 #[.slice A len cap] w fun e w' => e = .returned (.func (.func 69) #[] #[.pointer (some ⟨w.heap.size, 0, none⟩)]) ∧ w.alloc (.cells #[.slice A len cap] 58) = w' := by
  go_enter Tryd.func61, Tryd.ntmps61
  go_wp2
  go_ret
  exact ⟨rfl, rfl⟩

end Go.Proofs.YtmdjbmhjnajpgaaDoor
namespace Go.Proofs.YtmdjbmhjnajpgaaDoor
open Go.RowKit Go.Shelf
set_option linter.unusedSimpArgs false
set_option linter.unnecessarySimpa false
set_option linter.unusedVariables false

attribute [local go_sem] Oper.semAt_some

/-- what is read at a place: the last write that waits there, or the sector -/
def Dv.look (d : Dv) (l : Lc) : List UInt8 := d.ws.foldl (fun s x => if x.loc = l then x.text else s) ((d.sec l.dev).getD l.pos.toNat [])
theorem fold_none {l : Lc} : ∀ (ws : List Wr) (s : List UInt8), (∀ x ∈ ws, x.loc ≠ l) → ws.foldl (fun s x => if x.loc = l then x.text else s) s = s
  | [], _, _ => rfl
  | a :: ws, s, h => by
    rw [List.foldl_cons, if_neg (h a (by simp))]
    exact fold_none ws s (fun x hx => h x (by simp [hx]))
theorem look_none {d : Dv} {l : Lc} {pre : List IW} (hc : Came d.ws 0 pre) (h : ∀ y ∈ pre, y.2.loc ≠ l) : d.look l = (d.sec l.dev).getD l.pos.toNat [] := by
  refine fold_none _ _ (fun x hx => ?_)
  have : x ∈ pre.map Prod.snd := by rw [hc.2]; simpa using hx
  obtain ⟨y, hy, rfl⟩ := List.mem_map.1 this
  exact h y hy
theorem look_hit {d : Dv} {l : Lc} {m : Nat} {pre : List IW} {x : IW} (hc : Came d.ws m (pre ++ [x])) (h : ∀ y ∈ pre, y.2.loc ≠ l) (hx : x.2.loc = l) : d.look l = x.2.text := by
  have e1 : d.ws.drop m = x.2 :: (pre.map Prod.snd).reverse := by
    have := congrArg List.reverse hc.2
    rw [List.reverse_reverse, List.map_append, List.reverse_append] at this
    exact this.symm
  unfold Dv.look
  rw [← List.take_append_drop m d.ws, e1, List.foldl_append, List.foldl_cons, if_pos hx]
  refine fold_none _ _ (fun y hy => ?_)
  rw [List.mem_reverse] at hy
  obtain ⟨z, hz, rfl⟩ := List.mem_map.1 hy
  exact h z hz

theorem blk_own {β : Type} (g : Nat) (t : TypeId) (f : β → Array Value) : Own (fun s W => Blk W g t (f s)) := fun s X Y row hs hg hrow =>
  hs.grown hg (fun e' => by obtain ⟨o, ho, hc⟩ := hrow g e'.symm; rw [show X.heap[g]? = _ from hs] at ho; cases ho; cases hc)
theorem blk_kept {X Y : World} {row : Option Nat} {g : Nat} {t : TypeId} {cs : Array Value} (h : Blk X g t cs) (hg : X.grownBy Y row) (hr : ∀ r, row = some r → ∃ o : Obj, X.heap[r]? = some o ∧ o.isCells = false) : Blk Y g t cs :=
  h.grown hg (fun e' => by obtain ⟨o, ho, hc⟩ := hr g e'.symm; rw [show X.heap[g]? = _ from h] at ho; cases ho; cases hc)

theorem cell_far {X : World} {p q : Addr} {u : Value} (h : X.cell? p = some u) (hne : p.block ≠ q.block) (x : Value) : (X.setCell q x).cell? p = some u := by
  rw [← h]
  exact World.cell?_of_block (Below.heap_setCell X q x p.block hne)

/-- what Read's loop keeps -/
def RdI (w : World) (G B : Nat) (lc : Lc) (pre : List IW) (W : World) : Prop :=
  (B ≤ W.heap.size ∧ (∀ y ∈ pre, y.2.loc ≠ lc) ∧ Blk W G 33 #[.int .i64 lc.dev, .int .i64 lc.pos] ∧ Blk W (G + 1) 9 #[.string ⟨#[]⟩] ∧ Blk W (G + 1 + 1) 29 #[.int .i64 0]) ∧ Below w.heap.size w W
def RdX (w : World) (G : Nat) (lc : Lc) (c : Code) (pre : List IW) (W : World) : Prop :=
  (c = .ret ∧ ∃ pre' x, pre = pre' ++ [x] ∧ (∀ y ∈ pre', y.2.loc ≠ lc) ∧ x.2.loc = lc ∧ Blk W (G + 1) 9 #[.string (bstr x.2.text)] ∧ Blk W (G + 1 + 1) 29 #[.int .i64 0]) ∧ Below w.heap.size w W
theorem rdI_own (w : World) (G B : Nat) (lc : Lc) (hB : w.heap.size ≤ B) : OwnFrom B (RdI w G B lc) :=
  OwnFrom.and (Own.from (fun s X Y row hs hg hr => ⟨Nat.le_trans hs.1 hg.size, hs.2.1, blk_kept hs.2.2.1 hg hr, blk_kept hs.2.2.2.1 hg hr, blk_kept hs.2.2.2.2 hg hr⟩) _) (ownFrom_below (Nat.le_refl _) hB)
theorem rdX_own (w : World) (G B : Nat) (lc : Lc) (hB : w.heap.size ≤ B) (c : Code) : OwnFrom B (RdX w G lc c) :=
  OwnFrom.and (Own.from (fun s X Y row hs hg hr => by
    obtain ⟨h1, pre', x, h2, h3, h4, h5, h6⟩ := hs
    exact ⟨h1, pre', x, h2, h3, h4, blk_kept h5 hg hr, blk_kept h6 hg hr⟩) _) (ownFrom_below (Nat.le_refl _) hB)

set_option maxRecDepth 100000 in
set_option maxHeartbeats 4000000 in
theorem read_ok0 (g b0 b1 : Nat) (v : Value) (d : Dv) (k : Nat) (he : Hid (mayE d ⟨0, k⟩ [] = 0)) (hn : d.ws.length ≤ 100000) (w : World) (h : DvAt w g b0 b1 v d) :
    Calls Tryd.prog 48 #[.pointer (some ⟨g, 0, none⟩), .agg #[.int .i64 0, .int .i64 k]] w fun e w' => e = .returned (.tuple #[.string (bstr (d.look ⟨0, k⟩)), .int .i64 0]) ∧ Below w.heap.size w w' := by
  refine (callsIn_wide (n := 6)).1 ?_
  refine callsIn_of_wp_marks Tryd.func48 rfl trivial ?_ rfl
  simp only [Tryd.ntmps48, List.size_toArray, List.length_cons, List.length_nil, Nat.reduceAdd, Nat.reduceSub, Array.replicate_succ, Array.replicate_zero, List.push_toArray, List.append_toArray, List.nil_append, List.cons_append]
  refine wpIn_wide.2 ?_
  go_wp2_with fail
  obtain ⟨G, hG⟩ : ∃ g, w.heap.size = g := ⟨_, rfl⟩
  obtain ⟨w0, hw0⟩ : ∃ x, ((w.alloc (.cells #[.int .i64 0, .int .i64 k] 33)).alloc (.cells #[.string ⟨#[]⟩] 9)).alloc (.cells #[.int .i64 0] 29) = x := ⟨_, rfl⟩
  have bx : Below w.heap.size w w0 := by rw [← hw0]; exact (((Below.refl _ _).alloc (Nat.le_refl _) _).alloc (by simp) _).alloc (by simp; omega) _
  have hx : Blk w0 G 33 #[.int .i64 0, .int .i64 k] := by rw [← hw0, ← hG]; exact ((Blk.new _ _ _).alloc _).alloc _
  have hr : Blk w0 (G + 1) 9 #[.string ⟨#[]⟩] := by rw [← hw0, ← hG]; exact (blk_at (by simp)).alloc _
  have hq : Blk w0 (G + 1 + 1) 29 #[.int .i64 0] := by rw [← hw0, ← hG]; exact blk_at (by simp)
  rw [hw0]
  try rw [hG]
  refine (may_to he.out g b0 b1 v w0 (h.below bx)).mono ?_
  rintro e w1 ⟨rfl, c1⟩
  have k1 := bx.trans (c1.mono bx.size)
  have h1 := h.below k1
  have hx1 := hx.below c1 hx.lt
  have hr1 := hr.below c1 hr.lt
  have hq1 := hq.below c1 hq.lt
  have y4 := h1.cell4.1
  obtain ⟨A, c, rfl, _, _⟩ := h.form
  go_wp2_with fail
  refine (bw_any _ _ _ w1).mono ?_
  rintro e w2 ⟨rfl, hw2⟩
  have b2 : Below w1.heap.size w1 w2 := by rw [← hw2]; exact (Below.refl _ _).alloc (Nat.le_refl _) _
  have hb2 : Blk w2 w1.heap.size 58 #[.slice A d.ws.length c] := by rw [← hw2]; exact Blk.new _ _ _
  have k2 := k1.trans (b2.mono k1.size)
  have h2 := h.below k2
  have hx2 := hx1.below b2 hx1.lt
  have hr2 := hr1.below b2 hr1.lt
  have hq2 := hq1.below b2 hq1.lt
  have hsz2 : w1.heap.size < w2.heap.size := hb2.lt
  have hG2 : G + 1 + 1 < w2.heap.size := hq2.lt
  clear hw2 hw0 hx hr hq hx1 hr1 hq1 y4
  go_wp2_with fail
  have hzl : ∀ j, zblock (.slice A d.ws.length c) = some j → j < w2.heap.size := fun j e => h2.hw.lt e
  refine wpIn_wide.1 (?_ : Code.wpIn Fence.wide 6 _ _ _ _ _)
  refine wpIn_rangeFunc_ownH rfl (by decide) (gf := 69) (lb := #[.pointer (some ⟨w1.heap.size, 0, none⟩)]) rfl trivial (enters_of Tryd.func69 (by kernel_rfl) rfl)
    (bw_stops Fence.wide 5 trivial rfl (by decide) w1.heap.size w2.heap.size _ d.ws hn w2 hsz2 (Nat.le_refl _) (by have := hb2.cell 0; simpa using this) h2.hw hzl) belowK_t (belowK_b (Nat.le_refl _)) (Below.refl _ _) (fun _ => rfl)
    (RdI w G w2.heap.size ⟨0, k⟩) (RdX w G ⟨0, k⟩) (rdI_own w G _ _ k2.size) (rdX_own w G _ _ k2.size) ⟨⟨Nat.le_refl _, by simp, hx2, hr2, hq2⟩, k2⟩
    (fun x a' W => ∃ Bx, G + 1 + 1 < Bx ∧ Blk W Bx 67 #[.int .i64 x.2.loc.dev, .int .i64 x.2.loc.pos, .string (bstr x.2.text)] ∧ a' = { tmps := #[.pointer (some ⟨g, 0, none⟩), .agg #[.int .i64 0, .int .i64 k], undef, .pointer (some ⟨G, 0, none⟩), .pointer (some ⟨G + 1, 0, none⟩), .pointer (some ⟨G + 1 + 1, 0, none⟩), .int .i64 0, undef, .pointer (some ⟨Bx, 0, none⟩), .pointer (some ⟨g, 0, none⟩), .agg #[.int .i64 0, .int .i64 k], .int .i64 0, .int .i64 0, .bool false, undef, .pointer (some ⟨g, 0, none⟩), .pointer (some ⟨g, 0, none⟩), .pointer (some ⟨g, 4, none⟩), .slice A d.ws.length c, .func (.func 69) #[] #[.pointer (some ⟨w1.heap.size, 0, none⟩)], .int .i64 (x.1 : Int), .agg #[.int .i64 x.2.loc.dev, .int .i64 x.2.loc.pos, .string (bstr x.2.text)], undef, undef, undef, undef, undef, undef, undef, undef, undef, undef, undef, undef, undef, undef, undef, undef, undef], defers := [] })
    (fun x a' _ X Y row hs hg hr => by obtain ⟨Bx, h1, h2, h3⟩ := hs; exact ⟨Bx, h1, blk_kept h2 hg (fun r e => (hr r e).2), h3⟩)
    ?assign ?body ?done ?stop
  case assign =>
    rintro l pre x W K ⟨⟨hB2, hp, bx, br, bq⟩, hB⟩ hK
    simp only [encIW]
    gi_wp2
    exact hK _ _ ((KeepsOthers.alloc _ _).from _) ((Below.refl _ W).alloc hB2 _) ⟨⟨by simp; omega, hp, bx.alloc _, br.alloc _, bq.alloc _⟩, hB.alloc hB.size _⟩ ⟨W.heap.size, bq.lt, Blk.new W _ _, rfl⟩
  case body =>
    rintro l pre ⟨ix, ⟨⟨dv, ps⟩, tx⟩⟩ a' W hl ⟨r, hr⟩ ⟨⟨hB2, hp, bx, br, bq⟩, hB⟩ ⟨Bx, hBx, bX, rfl⟩ hlt
    have x0 := bx.cell 0
    have x1 := bx.cell 1
    have r0 := br.cell 0
    have rf := br.frozen 0
    have q0 := bq.cell 0
    have qf := bq.frozen 0
    have e0 := bX.cell 0
    have e1 := bX.cell 1
    have e2 := bX.cell 2
    simp at x0 x1 r0 q0 e0 e1 e2
    gi_wp2
    · refine ⟨((KeepsOthers.setCell _ _ _).from _).trans ((KeepsOthers.setCell _ _ _).from _), ⟨rfl, pre, _, rfl, hp, rfl, ?_, ?_⟩, below_at (below_at hB (by omega) _ _) (by omega) _ _⟩
      · have := (br.set_ 0 (.string (bstr tx))).far (p := ⟨G + 1 + 1, 0, none⟩) (by simp) (.int .i64 0)
        simpa using this
      · have := (bq.far (p := ⟨G + 1, 0, none⟩) (by simp) (.string (bstr tx))).set_ 0 (.int .i64 0)
        simpa using this
    · rename_i hne
      exact ⟨KeepsFrom.refl _ _, Below.refl _ _, ⟨hB2, fun y hy => (List.mem_append.1 hy).elim (hp y) (fun e e' => by simp at e; subst e; simp at e'; exact hne e'), bx, br, bq⟩, hB⟩
    · rename_i hne
      exact ⟨KeepsFrom.refl _ _, Below.refl _ _, ⟨hB2, fun y hy => (List.mem_append.1 hy).elim (hp y) (fun e e' => by simp at e; subst e; simp at e'; exact hne e'.1), bx, br, bq⟩, hB⟩
  case done =>
    rintro D ys W hD hys ⟨⟨hB2, hne, bx, br, bq⟩, hB⟩ hK
    have hlook := Lib.hid (look_none hys hne)
    obtain ⟨c0, c1, hg, q0, q1⟩ := (h.below hB).hx
    have hmay := he.out
    have hk : k < d.s0.length := by
      unfold mayE at hmay
      split at hmay
      · cases hmay
      · rename_i hh
        simp [Dv.sec] at hh
        omega
    have hkl : (k : Int) < d.s0.length := by omega
    have hk0 : (0 : Int) ≤ k := by omega
    have hls : d.look ⟨0, k⟩ = d.s0[k] := by
      rw [hlook.out]
      simp [Dv.sec, hk]
    have HLS := Lib.hid hls
    clear hls hmay hlook
    have x0 := bx.cell 0
    have x1 := bx.cell 1
    have y0 := hg.cell 0
    have s0 := q0.cellAt k (by omega)
    rw [secV_get _ _ hk] at s0
    have r0 := br.cell 0
    have rf := br.frozen 0
    have t0 := bq.cell 0
    have tf := bq.frozen 0
    simp at x0 x1 y0 r0 t0
    have hgl := h.lt (k := g) (.inl rfl)
    have hbl := h.lt (k := b0) (.inr (.inl rfl))
    go_wp2_with fail
    go_region_held3 (fun w' => w'.cell? ⟨G, 0, none⟩ = some (.int .i64 0) ∧ w'.cell? ⟨G, 1, none⟩ = some (.int .i64 k) ∧ w'.cell? ⟨g, 0, none⟩ = some (.slice (some ⟨b0, 0, none⟩) d.s0.length c0) ∧ w'.cell? ⟨b0, k, none⟩ = some (.string (bstr d.s0[k])))
      (first | exact ⟨x0, x1, y0, s0⟩ | exact ⟨cell_far x0 (by simp) _, cell_far x1 (by simp) _, cell_far y0 (by simp; omega) _, cell_far s0 (by simp; omega) _⟩ | exact ⟨cell_far (cell_far x0 (by simp) _) (by simp; omega) _, cell_far (cell_far x1 (by simp) _) (by simp; omega) _, cell_far (cell_far y0 (by simp; omega) _) (by simp; omega) _, cell_far (cell_far s0 (by simp; omega) _) (by simp; omega) _⟩ | go_keep)
      (fail)
    obtain ⟨W9, hW9⟩ : ∃ X, ((W.setCell ⟨G + 1, 0, none⟩ (.string (bstr d.s0[k]))).setCell ⟨G + 1 + 1, 0, none⟩ (.int .i64 0)).drew = X := ⟨_, rfl⟩
    have hgt := bq.lt
    have hDl : G + 1 + 1 < D := by omega
    have hK9 : W9.heap[D]? = some (.deferred (some [])) := by
      rw [← hW9]
      exact (Below.heap_setCell _ ⟨G + 1 + 1, 0, none⟩ _ D (by simp; omega)).trans ((Below.heap_setCell _ ⟨G + 1, 0, none⟩ _ D (by simp; omega)).trans hK)
    have b9 : Below w.heap.size w W9 := by rw [← hW9]; exact (below_at (below_at hB (by omega) _ _) (by omega) _ _).drew
    have br9 : Blk W9 (G + 1) 9 #[.string (bstr d.s0[k])] := by
      rw [← hW9]
      have := ((br.set_ 0 (.string (bstr d.s0[k]))).far (p := ⟨G + 1 + 1, 0, none⟩) (by simp) (.int .i64 0)).drew
      simpa using this
    have bq9 : Blk W9 (G + 1 + 1) 29 #[.int .i64 0] := by
      rw [← hW9]
      have := ((bq.far (p := ⟨G + 1, 0, none⟩) (by simp) (.string (bstr d.s0[k]))).set_ 0 (.int .i64 0)).drew
      simpa using this
    rw [hW9]
    clear x0 x1 y0 s0 r0 rf t0 tf hg q0 q1 hW9
    go_wp2
    refine ⟨by simp, .inl ⟨_, _, rfl, run_takeDeferred hK9, ?_⟩⟩
    have br' := blk_kept br9 (grownBy_putObj' W9 D (.deferred none)) (fun r e => by cases e; exact ⟨_, hK9, rfl⟩)
    have bq' := blk_kept bq9 (grownBy_putObj' W9 D (.deferred none)) (fun r e => by cases e; exact ⟨_, hK9, rfl⟩)
    have r0 := br'.cell 0
    have q0 := bq'.cell 0
    simp at r0 q0
    refine ⟨.tuple #[.string (bstr d.s0[k]), .int .i64 0], ?_, by rw [HLS.out], b9.trans (belowK_b (w := w) (Nat.le_refl _) W9 D _ _ (by have := k2.size; omega) hK9 rfl rfl)⟩
    simp [results, Tryd.f48, go_sem, r0, q0]
  case stop =>
    rintro D c pre W hD hpre ⟨⟨rfl, pre', x, rfl, hne, hx, br, bq⟩, hB⟩ hK
    obtain ⟨m, hm⟩ := hpre
    have hlook := look_hit hm hne hx
    gi_wp2
    refine ⟨by simp, .inl ⟨_, _, rfl, run_takeDeferred hK, ?_⟩⟩
    have br' := blk_kept br (grownBy_putObj' W D (.deferred none)) (fun r e => by cases e; exact ⟨_, hK, rfl⟩)
    have bq' := blk_kept bq (grownBy_putObj' W D (.deferred none)) (fun r e => by cases e; exact ⟨_, hK, rfl⟩)
    have r0 := br'.cell 0
    have q0 := bq'.cell 0
    simp at r0 q0
    refine ⟨.tuple #[.string (bstr x.2.text), .int .i64 0], ?_, by rw [hlook], hB.trans (belowK_b (w := w) (Nat.le_refl _) W D _ _ (by have := k2.size; omega) hK rfl rfl)⟩
    simp [results, Tryd.f48, go_sem, r0, q0]

set_option maxRecDepth 100000 in
set_option maxHeartbeats 4000000 in
theorem read_ok1 (g b0 b1 : Nat) (v : Value) (d : Dv) (k : Nat) (he : Hid (mayE d ⟨1, k⟩ [] = 0)) (hn : d.ws.length ≤ 100000) (w : World) (h : DvAt w g b0 b1 v d) :
    Calls Tryd.prog 48 #[.pointer (some ⟨g, 0, none⟩), .agg #[.int .i64 1, .int .i64 k]] w fun e w' => e = .returned (.tuple #[.string (bstr (d.look ⟨1, k⟩)), .int .i64 0]) ∧ Below w.heap.size w w' := by
  refine (callsIn_wide (n := 6)).1 ?_
  refine callsIn_of_wp_marks Tryd.func48 rfl trivial ?_ rfl
  simp only [Tryd.ntmps48, List.size_toArray, List.length_cons, List.length_nil, Nat.reduceAdd, Nat.reduceSub, Array.replicate_succ, Array.replicate_zero, List.push_toArray, List.append_toArray, List.nil_append, List.cons_append]
  refine wpIn_wide.2 ?_
  go_wp2_with fail
  obtain ⟨G, hG⟩ : ∃ g, w.heap.size = g := ⟨_, rfl⟩
  obtain ⟨w0, hw0⟩ : ∃ x, ((w.alloc (.cells #[.int .i64 1, .int .i64 k] 33)).alloc (.cells #[.string ⟨#[]⟩] 9)).alloc (.cells #[.int .i64 0] 29) = x := ⟨_, rfl⟩
  have bx : Below w.heap.size w w0 := by rw [← hw0]; exact (((Below.refl _ _).alloc (Nat.le_refl _) _).alloc (by simp) _).alloc (by simp; omega) _
  have hx : Blk w0 G 33 #[.int .i64 1, .int .i64 k] := by rw [← hw0, ← hG]; exact ((Blk.new _ _ _).alloc _).alloc _
  have hr : Blk w0 (G + 1) 9 #[.string ⟨#[]⟩] := by rw [← hw0, ← hG]; exact (blk_at (by simp)).alloc _
  have hq : Blk w0 (G + 1 + 1) 29 #[.int .i64 0] := by rw [← hw0, ← hG]; exact blk_at (by simp)
  rw [hw0]
  try rw [hG]
  refine (may_to he.out g b0 b1 v w0 (h.below bx)).mono ?_
  rintro e w1 ⟨rfl, c1⟩
  have k1 := bx.trans (c1.mono bx.size)
  have h1 := h.below k1
  have hx1 := hx.below c1 hx.lt
  have hr1 := hr.below c1 hr.lt
  have hq1 := hq.below c1 hq.lt
  have y4 := h1.cell4.1
  obtain ⟨A, c, rfl, _, _⟩ := h.form
  go_wp2_with fail
  refine (bw_any _ _ _ w1).mono ?_
  rintro e w2 ⟨rfl, hw2⟩
  have b2 : Below w1.heap.size w1 w2 := by rw [← hw2]; exact (Below.refl _ _).alloc (Nat.le_refl _) _
  have hb2 : Blk w2 w1.heap.size 58 #[.slice A d.ws.length c] := by rw [← hw2]; exact Blk.new _ _ _
  have k2 := k1.trans (b2.mono k1.size)
  have h2 := h.below k2
  have hx2 := hx1.below b2 hx1.lt
  have hr2 := hr1.below b2 hr1.lt
  have hq2 := hq1.below b2 hq1.lt
  have hsz2 : w1.heap.size < w2.heap.size := hb2.lt
  have hG2 : G + 1 + 1 < w2.heap.size := hq2.lt
  clear hw2 hw0 hx hr hq hx1 hr1 hq1 y4
  go_wp2_with fail
  have hzl : ∀ j, zblock (.slice A d.ws.length c) = some j → j < w2.heap.size := fun j e => h2.hw.lt e
  refine wpIn_wide.1 (?_ : Code.wpIn Fence.wide 6 _ _ _ _ _)
  refine wpIn_rangeFunc_ownH rfl (by decide) (gf := 69) (lb := #[.pointer (some ⟨w1.heap.size, 0, none⟩)]) rfl trivial (enters_of Tryd.func69 (by kernel_rfl) rfl)
    (bw_stops Fence.wide 5 trivial rfl (by decide) w1.heap.size w2.heap.size _ d.ws hn w2 hsz2 (Nat.le_refl _) (by have := hb2.cell 0; simpa using this) h2.hw hzl) belowK_t (belowK_b (Nat.le_refl _)) (Below.refl _ _) (fun _ => rfl)
    (RdI w G w2.heap.size ⟨1, k⟩) (RdX w G ⟨1, k⟩) (rdI_own w G _ _ k2.size) (rdX_own w G _ _ k2.size) ⟨⟨Nat.le_refl _, by simp, hx2, hr2, hq2⟩, k2⟩
    (fun x a' W => ∃ Bx, G + 1 + 1 < Bx ∧ Blk W Bx 67 #[.int .i64 x.2.loc.dev, .int .i64 x.2.loc.pos, .string (bstr x.2.text)] ∧ a' = { tmps := #[.pointer (some ⟨g, 0, none⟩), .agg #[.int .i64 1, .int .i64 k], undef, .pointer (some ⟨G, 0, none⟩), .pointer (some ⟨G + 1, 0, none⟩), .pointer (some ⟨G + 1 + 1, 0, none⟩), .int .i64 0, undef, .pointer (some ⟨Bx, 0, none⟩), .pointer (some ⟨g, 0, none⟩), .agg #[.int .i64 1, .int .i64 k], .int .i64 0, .int .i64 0, .bool false, undef, .pointer (some ⟨g, 0, none⟩), .pointer (some ⟨g, 0, none⟩), .pointer (some ⟨g, 4, none⟩), .slice A d.ws.length c, .func (.func 69) #[] #[.pointer (some ⟨w1.heap.size, 0, none⟩)], .int .i64 (x.1 : Int), .agg #[.int .i64 x.2.loc.dev, .int .i64 x.2.loc.pos, .string (bstr x.2.text)], undef, undef, undef, undef, undef, undef, undef, undef, undef, undef, undef, undef, undef, undef, undef, undef, undef], defers := [] })
    (fun x a' _ X Y row hs hg hr => by obtain ⟨Bx, h1, h2, h3⟩ := hs; exact ⟨Bx, h1, blk_kept h2 hg (fun r e => (hr r e).2), h3⟩)
    ?assign ?body ?done ?stop
  case assign =>
    rintro l pre x W K ⟨⟨hB2, hp, bx, br, bq⟩, hB⟩ hK
    simp only [encIW]
    gi_wp2
    exact hK _ _ ((KeepsOthers.alloc _ _).from _) ((Below.refl _ W).alloc hB2 _) ⟨⟨by simp; omega, hp, bx.alloc _, br.alloc _, bq.alloc _⟩, hB.alloc hB.size _⟩ ⟨W.heap.size, bq.lt, Blk.new W _ _, rfl⟩
  case body =>
    rintro l pre ⟨ix, ⟨⟨dv, ps⟩, tx⟩⟩ a' W hl ⟨r, hr⟩ ⟨⟨hB2, hp, bx, br, bq⟩, hB⟩ ⟨Bx, hBx, bX, rfl⟩ hlt
    have x0 := bx.cell 0
    have x1 := bx.cell 1
    have r0 := br.cell 0
    have rf := br.frozen 0
    have q0 := bq.cell 0
    have qf := bq.frozen 0
    have e0 := bX.cell 0
    have e1 := bX.cell 1
    have e2 := bX.cell 2
    simp at x0 x1 r0 q0 e0 e1 e2
    gi_wp2
    · refine ⟨((KeepsOthers.setCell _ _ _).from _).trans ((KeepsOthers.setCell _ _ _).from _), ⟨rfl, pre, _, rfl, hp, rfl, ?_, ?_⟩, below_at (below_at hB (by omega) _ _) (by omega) _ _⟩
      · have := (br.set_ 0 (.string (bstr tx))).far (p := ⟨G + 1 + 1, 0, none⟩) (by simp) (.int .i64 0)
        simpa using this
      · have := (bq.far (p := ⟨G + 1, 0, none⟩) (by simp) (.string (bstr tx))).set_ 0 (.int .i64 0)
        simpa using this
    · rename_i hne
      exact ⟨KeepsFrom.refl _ _, Below.refl _ _, ⟨hB2, fun y hy => (List.mem_append.1 hy).elim (hp y) (fun e e' => by simp at e; subst e; simp at e'; exact hne e'), bx, br, bq⟩, hB⟩
    · rename_i hne
      exact ⟨KeepsFrom.refl _ _, Below.refl _ _, ⟨hB2, fun y hy => (List.mem_append.1 hy).elim (hp y) (fun e e' => by simp at e; subst e; simp at e'; exact hne e'.1), bx, br, bq⟩, hB⟩
  case done =>
    rintro D ys W hD hys ⟨⟨hB2, hne, bx, br, bq⟩, hB⟩ hK
    have hlook := Lib.hid (look_none hys hne)
    obtain ⟨c0, c1, hg, q0, q1⟩ := (h.below hB).hx
    have hmay := he.out
    have hk : k < d.s1.length := by
      unfold mayE at hmay
      split at hmay
      · cases hmay
      · rename_i hh
        simp [Dv.sec] at hh
        omega
    have hkl : (k : Int) < d.s1.length := by omega
    have hk0 : (0 : Int) ≤ k := by omega
    have hls : d.look ⟨1, k⟩ = d.s1[k] := by
      rw [hlook.out]
      simp [Dv.sec, hk]
    have HLS := Lib.hid hls
    clear hls hmay hlook
    have x0 := bx.cell 0
    have x1 := bx.cell 1
    have y0 := hg.cell 1
    have s0 := q1.cellAt k (by omega)
    rw [secV_get _ _ hk] at s0
    have r0 := br.cell 0
    have rf := br.frozen 0
    have t0 := bq.cell 0
    have tf := bq.frozen 0
    simp at x0 x1 y0 r0 t0
    have hgl := h.lt (k := g) (.inl rfl)
    have hbl := h.lt (k := b1) (.inr (.inr (.inl rfl)))
    go_wp2_with fail
    go_region_held3 (fun w' => w'.cell? ⟨G, 0, none⟩ = some (.int .i64 1) ∧ w'.cell? ⟨G, 1, none⟩ = some (.int .i64 k) ∧ w'.cell? ⟨g, 1, none⟩ = some (.slice (some ⟨b1, 0, none⟩) d.s1.length c1) ∧ w'.cell? ⟨b1, k, none⟩ = some (.string (bstr d.s1[k])))
      (first | exact ⟨x0, x1, y0, s0⟩ | exact ⟨cell_far x0 (by simp) _, cell_far x1 (by simp) _, cell_far y0 (by simp; omega) _, cell_far s0 (by simp; omega) _⟩ | exact ⟨cell_far (cell_far x0 (by simp) _) (by simp; omega) _, cell_far (cell_far x1 (by simp) _) (by simp; omega) _, cell_far (cell_far y0 (by simp; omega) _) (by simp; omega) _, cell_far (cell_far s0 (by simp; omega) _) (by simp; omega) _⟩ | go_keep)
      (fail)
    obtain ⟨W9, hW9⟩ : ∃ X, ((W.setCell ⟨G + 1, 0, none⟩ (.string (bstr d.s1[k]))).setCell ⟨G + 1 + 1, 0, none⟩ (.int .i64 0)).drew = X := ⟨_, rfl⟩
    have hgt := bq.lt
    have hDl : G + 1 + 1 < D := by omega
    have hK9 : W9.heap[D]? = some (.deferred (some [])) := by
      rw [← hW9]
      exact (Below.heap_setCell _ ⟨G + 1 + 1, 0, none⟩ _ D (by simp; omega)).trans ((Below.heap_setCell _ ⟨G + 1, 0, none⟩ _ D (by simp; omega)).trans hK)
    have b9 : Below w.heap.size w W9 := by rw [← hW9]; exact (below_at (below_at hB (by omega) _ _) (by omega) _ _).drew
    have br9 : Blk W9 (G + 1) 9 #[.string (bstr d.s1[k])] := by
      rw [← hW9]
      have := ((br.set_ 0 (.string (bstr d.s1[k]))).far (p := ⟨G + 1 + 1, 0, none⟩) (by simp) (.int .i64 0)).drew
      simpa using this
    have bq9 : Blk W9 (G + 1 + 1) 29 #[.int .i64 0] := by
      rw [← hW9]
      have := ((bq.far (p := ⟨G + 1, 0, none⟩) (by simp) (.string (bstr d.s1[k]))).set_ 0 (.int .i64 0)).drew
      simpa using this
    rw [hW9]
    clear x0 x1 y0 s0 r0 rf t0 tf hg q0 q1 hW9
    go_wp2
    refine ⟨by simp, .inl ⟨_, _, rfl, run_takeDeferred hK9, ?_⟩⟩
    have br' := blk_kept br9 (grownBy_putObj' W9 D (.deferred none)) (fun r e => by cases e; exact ⟨_, hK9, rfl⟩)
    have bq' := blk_kept bq9 (grownBy_putObj' W9 D (.deferred none)) (fun r e => by cases e; exact ⟨_, hK9, rfl⟩)
    have r0 := br'.cell 0
    have q0 := bq'.cell 0
    simp at r0 q0
    refine ⟨.tuple #[.string (bstr d.s1[k]), .int .i64 0], ?_, by rw [HLS.out], b9.trans (belowK_b (w := w) (Nat.le_refl _) W9 D _ _ (by have := k2.size; omega) hK9 rfl rfl)⟩
    simp [results, Tryd.f48, go_sem, r0, q0]
  case stop =>
    rintro D c pre W hD hpre ⟨⟨rfl, pre', x, rfl, hne, hx, br, bq⟩, hB⟩ hK
    obtain ⟨m, hm⟩ := hpre
    have hlook := look_hit hm hne hx
    gi_wp2
    refine ⟨by simp, .inl ⟨_, _, rfl, run_takeDeferred hK, ?_⟩⟩
    have br' := blk_kept br (grownBy_putObj' W D (.deferred none)) (fun r e => by cases e; exact ⟨_, hK, rfl⟩)
    have bq' := blk_kept bq (grownBy_putObj' W D (.deferred none)) (fun r e => by cases e; exact ⟨_, hK, rfl⟩)
    have r0 := br'.cell 0
    have q0 := bq'.cell 0
    simp at r0 q0
    refine ⟨.tuple #[.string (bstr x.2.text), .int .i64 0], ?_, by rw [hlook], hB.trans (belowK_b (w := w) (Nat.le_refl _) W D _ _ (by have := k2.size; omega) hK rfl rfl)⟩
    simp [results, Tryd.f48, go_sem, r0, q0]

/-- what Read answers -/
def Dv.read (d : Dv) (l : Lc) : List UInt8 × Int := if mayE d l [] = 0 then (d.look l, 0) else ([], mayE d l [])
theorem may_zero {d : Dv} {l : Lc} {s : List UInt8} (h : mayE d l s = 0) : d.has l := by
  unfold mayE at h
  split at h
  · cases h
  · rename_i hh
    simp at hh
    exact ⟨hh.1, hh.2.1, hh.2.2.1⟩
theorem read_bad {e0 : Int} (g b0 b1 : Nat) (v : Value) (d : Dv) (l : Lc) (he : Hid (mayE d l [] = e0)) (hz : (e0 != 0) = true) (w : World) (h : DvAt w g b0 b1 v d) :
    Calls Tryd.prog 48 #[.pointer (some ⟨g, 0, none⟩), .agg #[.int .i64 l.dev, .int .i64 l.pos]] w fun e w' => e = .returned (.tuple #[.string (bstr []), .int .i64 e0]) ∧ Below w.heap.size w w' := by
  go_enter Tryd.func48, Tryd.ntmps48
  go_wp2_with fail
  obtain ⟨G, hG⟩ : ∃ g, w.heap.size = g := ⟨_, rfl⟩
  obtain ⟨w0, hw0⟩ : ∃ x, ((w.alloc (.cells #[.int .i64 l.dev, .int .i64 l.pos] 33)).alloc (.cells #[.string ⟨#[]⟩] 9)).alloc (.cells #[.int .i64 0] 29) = x := ⟨_, rfl⟩
  have bx : Below w.heap.size w w0 := by rw [← hw0]; exact (((Below.refl _ _).alloc (Nat.le_refl _) _).alloc (by simp) _).alloc (by simp; omega) _
  have hr : Blk w0 (G + 1) 9 #[.string ⟨#[]⟩] := by rw [← hw0, ← hG]; exact (blk_at (by simp)).alloc _
  have hq : Blk w0 (G + 1 + 1) 29 #[.int .i64 0] := by rw [← hw0, ← hG]; exact blk_at (by simp)
  rw [hw0]
  try rw [hG]
  refine (may_to he.out g b0 b1 v w0 (h.below bx)).mono ?_
  rintro e w1 ⟨rfl, c1⟩
  have k1 := bx.trans (c1.mono bx.size)
  have hr1 := hr.below c1 hr.lt
  have hq1 := hq.below c1 hq.lt
  have r0 := hr1.cell 0
  have rf := hr1.frozen 0
  have q0 := hq1.cell 0
  have qf := hq1.frozen 0
  simp at r0 q0
  have br := (hr1.set_ 0 (.string ⟨#[]⟩)).far (p := ⟨G + 1 + 1, 0, none⟩) (by simp) (.int .i64 e0)
  have bq := (hq1.far (p := ⟨G + 1, 0, none⟩) (by simp) (.string ⟨#[]⟩)).set_ 0 (.int .i64 e0)
  have R0 := br.cell 0
  have Q0 := bq.cell 0
  simp at R0 Q0
  go_wp2
  refine bodyPost_ret (v := .tuple #[.string (bstr []), .int .i64 e0]) (by simp [results, Tryd.f48, go_sem, R0, Q0]) rfl ⟨rfl, below_at (below_at k1 (by omega) _ _) (by omega) _ _⟩
theorem read_nil (l : Lc) (w : World) :
    Calls Tryd.prog 48 #[.pointer none, .agg #[.int .i64 l.dev, .int .i64 l.pos]] w fun e w' => e = .returned (.tuple #[.string (bstr []), .int .i64 1]) ∧ Below w.heap.size w w' := by
  go_enter Tryd.func48, Tryd.ntmps48
  go_wp2_with fail
  obtain ⟨G, hG⟩ : ∃ g, w.heap.size = g := ⟨_, rfl⟩
  obtain ⟨w0, hw0⟩ : ∃ x, ((w.alloc (.cells #[.int .i64 l.dev, .int .i64 l.pos] 33)).alloc (.cells #[.string ⟨#[]⟩] 9)).alloc (.cells #[.int .i64 0] 29) = x := ⟨_, rfl⟩
  have bx : Below w.heap.size w w0 := by rw [← hw0]; exact (((Below.refl _ _).alloc (Nat.le_refl _) _).alloc (by simp) _).alloc (by simp; omega) _
  have hr : Blk w0 (G + 1) 9 #[.string ⟨#[]⟩] := by rw [← hw0, ← hG]; exact (blk_at (by simp)).alloc _
  have hq : Blk w0 (G + 1 + 1) 29 #[.int .i64 0] := by rw [← hw0, ← hG]; exact blk_at (by simp)
  rw [hw0]
  try rw [hG]
  refine (may_nil l [] w0).mono ?_
  rintro e w1 ⟨rfl, c1⟩
  have k1 := bx.trans (c1.mono bx.size)
  have hr1 := hr.below c1 hr.lt
  have hq1 := hq.below c1 hq.lt
  have r0 := hr1.cell 0
  have rf := hr1.frozen 0
  have q0 := hq1.cell 0
  have qf := hq1.frozen 0
  simp at r0 q0
  have br := (hr1.set_ 0 (.string ⟨#[]⟩)).far (p := ⟨G + 1 + 1, 0, none⟩) (by simp) (.int .i64 1)
  have bq := (hq1.far (p := ⟨G + 1, 0, none⟩) (by simp) (.string ⟨#[]⟩)).set_ 0 (.int .i64 1)
  have R0 := br.cell 0
  have Q0 := bq.cell 0
  simp at R0 Q0
  go_wp2
  refine bodyPost_ret (v := .tuple #[.string (bstr []), .int .i64 1]) (by simp [results, Tryd.f48, go_sem, R0, Q0]) rfl ⟨rfl, below_at (below_at k1 (by omega) _ _) (by omega) _ _⟩

theorem dread_any (g b0 b1 : Nat) (v : Value) (d : Dv) (l : Lc) (hn : d.ws.length ≤ 100000) (w : World) (h : DvAt w g b0 b1 v d) :
    Calls Tryd.prog 48 #[.pointer (some ⟨g, 0, none⟩), .agg #[.int .i64 l.dev, .int .i64 l.pos]] w fun e w' => e = .returned (.tuple #[.string (bstr (d.read l).1), .int .i64 (d.read l).2]) ∧ Below w.heap.size w w' := by
  by_cases he : mayE d l [] = 0
  · obtain ⟨dev, pos⟩ := l
    obtain ⟨h1, h2, h3⟩ := may_zero he
    simp only at h1 h2 h3 ⊢
    obtain ⟨k, rfl⟩ : ∃ k : Nat, pos = k := ⟨pos.toNat, by omega⟩
    have h01 : dev = 0 ∨ dev = 1 := by simpa [isB] using h1
    have e : d.read ⟨dev, k⟩ = (d.look ⟨dev, k⟩, 0) := by unfold Dv.read; rw [if_pos he]
    rw [e]
    rcases h01 with rfl | rfl
    · exact read_ok0 g b0 b1 v d k (Lib.hid he) hn w h
    · exact read_ok1 g b0 b1 v d k (Lib.hid he) hn w h
  · have e : d.read l = ([], mayE d l []) := by unfold Dv.read; rw [if_neg he]
    rw [e]
    exact read_bad g b0 b1 v d l (Lib.hid rfl) (by simpa using he) w h

end Go.Proofs.YtmdjbmhjnajpgaaDoor
namespace Go.Proofs.YtmdjbmhjnajpgaaDoor
open Go.RowKit
set_option linter.unusedSimpArgs false
set_option linter.unnecessarySimpa false
set_option linter.unusedVariables false

/-- what holds of all devices: sectors there, every write that waits has its place -/
structure Dv.ok (d : Dv) : Prop where
  p0 : 0 < d.s0.length
  p1 : 0 < d.s1.length
  m0 : d.s0.length ≤ 512
  m1 : d.s1.length ≤ 512
  ws : ∀ x ∈ d.ws, d.has x.loc
def Dv.write (d : Dv) (l : Lc) (s : List UInt8) : Dv := if mayE d l s = 0 then { d with ws := d.ws ++ [⟨l, s⟩] } else d
def Dv.lose (d : Dv) (dev : Int) : Dv := if dev = 0 then { d with s0 := List.replicate d.s0.length [], l0 := true, ws := d.ws.filter (fun x => !(x.loc.dev == 0)) } else if dev = 1 then { d with s1 := List.replicate d.s1.length [], l1 := true, ws := d.ws.filter (fun x => !(x.loc.dev == 1)) } else d
def Dv.spoilAt (d : Dv) (l : Lc) (s : List UInt8) : Dv := if mayE d l s = 0 then d.spoil ⟨l, s⟩ else d
theorem Dv.has_congr {d e : Dv} (h0 : e.s0.length = d.s0.length) (h1 : e.s1.length = d.s1.length) (l : Lc) : e.has l ↔ d.has l := by
  unfold Dv.has Dv.sec
  by_cases h : l.dev = 0 <;> simp [h, h0, h1]
theorem Dv.put_len (d : Dv) (x : Wr) : (d.put x).s0.length = d.s0.length ∧ (d.put x).s1.length = d.s1.length := by
  unfold Dv.put
  split <;> simp
theorem Dv.settle_len (d : Dv) (kf : Nat → Bool) : ∀ n, (d.settle kf n).s0.length = d.s0.length ∧ (d.settle kf n).s1.length = d.s1.length
  | 0 => ⟨rfl, rfl⟩
  | n + 1 => by
    have ih := Dv.settle_len d kf n
    unfold Dv.settle
    split
    · split
      · exact ⟨((d.settle kf n).put_len _).1.trans ih.1, ((d.settle kf n).put_len _).2.trans ih.2⟩
      · exact ih
    · exact ih
theorem Dv.ok.of_len {d e : Dv} (h : d.ok) (h0 : e.s0.length = d.s0.length) (h1 : e.s1.length = d.s1.length) (hw : ∀ x ∈ e.ws, d.has x.loc) : e.ok :=
  ⟨by rw [h0]; exact h.p0, by rw [h1]; exact h.p1, by rw [h0]; exact h.m0, by rw [h1]; exact h.m1, fun x hx => (Dv.has_congr h0 h1 _).2 (hw x hx)⟩
theorem Dv.ok.write {d : Dv} (h : d.ok) (l : Lc) (s : List UInt8) : (d.write l s).ok := by
  unfold Dv.write
  split
  · rename_i he
    refine h.of_len rfl rfl (fun x hx => ?_)
    rcases List.mem_append.1 hx with hx | hx
    · exact h.ws x hx
    · simp at hx; subst hx; exact may_zero he
  · exact h
theorem Dv.ok.crash {d : Dv} (h : d.ok) (kl : List Bool) : (d.crash kl).ok := h.of_len (d.settle_len _ _).1 (d.settle_len _ _).2 (fun x hx => by simp [Dv.crash] at hx)
theorem Dv.ok.flush {d : Dv} (h : d.ok) : d.flush.ok := h.of_len (d.settle_len _ _).1 (d.settle_len _ _).2 (fun x hx => by simp [Dv.flush] at hx)
theorem Dv.ok.spoilAt {d : Dv} (h : d.ok) (l : Lc) (s : List UInt8) : (d.spoilAt l s).ok := by
  unfold Dv.spoilAt
  split
  · refine h.of_len ?_ ?_ (fun x hx => ?_)
    · exact (Dv.put_len _ _).1
    · exact (Dv.put_len _ _).2
    · unfold Dv.spoil at hx
      rw [Dv.put_ws] at hx
      exact h.ws x (List.mem_filter.1 hx).1
  · exact h
theorem Dv.ok.lose {d : Dv} (h : d.ok) (dev : Int) : (d.lose dev).ok := by
  unfold Dv.lose
  split
  · exact h.of_len (by simp) rfl (fun x hx => h.ws x (List.mem_filter.1 hx).1)
  · split
    · exact h.of_len rfl (by simp) (fun x hx => h.ws x (List.mem_filter.1 hx).1)
    · exact h
theorem Dv.ok.new {n m : Nat} (h1 : 1 ≤ n) (h2 : n ≤ 512) (h3 : 1 ≤ m) (h4 : m ≤ 512) : (Dv.new n m).ok :=
  ⟨by simp [Dv.new]; omega, by simp [Dv.new]; omega, by simp [Dv.new]; omega, by simp [Dv.new]; omega, fun x hx => by simp [Dv.new] at hx⟩

/-- devices in memory, in blocks of S -/
structure DvO (w : World) (S : Nat → Prop) (g : Nat) (d : Dv) : Prop where
  at_ : ∃ b0 b1 v, DvAt w g b0 b1 v d ∧ ∀ k, dvB g b0 b1 v k → S k
  lt : ∀ k, S k → k < w.heap.size
  ok : d.ok
/-- devices behind a call -/
def DvPost (w : World) (S : Nat → Prop) (g : Nat) (d : Dv) (w' : World) : Prop := ∃ S', DvO w' S' g d ∧ (∀ k, S' k → S k ∨ w.heap.size ≤ k) ∧ Keep w.heap.size S w w'
theorem DvO.keep {w w' : World} {S T : Nat → Prop} {g : Nat} {d : Dv} (h : DvO w S g d) (hk : Keep w.heap.size T w w') (hST : ∀ k, S k → ¬ T k) : DvO w' S g d := by
  obtain ⟨⟨b0, b1, v, h1, h2⟩, h3, h4⟩ := h
  exact ⟨⟨b0, b1, v, h1.keep hk (fun k e => ⟨h3 k (h2 k e), hST k (h2 k e)⟩), h2⟩, fun k e => Nat.lt_of_lt_of_le (h3 k e) hk.size, h4⟩
theorem DvO.below {w w' : World} {S : Nat → Prop} {g : Nat} {d : Dv} (h : DvO w S g d) (hb : Below w.heap.size w w') : DvO w' S g d := h.keep (T := fun _ => False) (Keep.of_below hb) (fun _ _ x => x)
theorem DvO.post {w w' : World} {g b0 b1 b0' b1' : Nat} {v v' : Value} {S : Nat → Prop} {d : Dv} (h : ∀ k, dvB g b0 b1 v k → S k) (hd : DvAt w' g b0' b1' v' d) (ok : d.ok) (hn : ∀ k, dvB g b0' b1' v' k → S k ∨ w.heap.size ≤ k) (hk : Keep w.heap.size S w w') : DvPost w S g d w' :=
  ⟨dvB g b0' b1' v', ⟨⟨_, _, _, hd, fun _ e => e⟩, fun k e => hd.lt e, ok⟩, hn, hk⟩
theorem DvO.same {w w' : World} {S : Nat → Prop} {g : Nat} {d : Dv} (h : DvO w S g d) (hb : Below w.heap.size w w') : DvPost w S g d w' := ⟨S, h.below hb, fun _ e => .inl e, Keep.of_below hb⟩

theorem newO (n m : Nat) (h1 : 1 ≤ n) (h2 : n ≤ 512) (h3 : 1 ≤ m) (h4 : m ≤ 512) (w : World) :
    Calls Tryd.prog 9 #[.int .i64 n, .int .i64 m] w fun e w' => ∃ g S, e = .returned (.pointer (some ⟨g, 0, none⟩)) ∧ DvO w' S g (Dv.new n m) ∧ (∀ k, S k → w.heap.size ≤ k) ∧ Below w.heap.size w w' := by
  refine (new_ok n m h1 h2 h3 h4 w).mono ?_
  rintro e w' ⟨⟨g, b0, b1, rfl, hg, hb0, hb1, hd⟩, hb⟩
  refine ⟨g, dvB g b0 b1 (.slice none 0 0), rfl, ⟨⟨_, _, _, hd, fun _ e => e⟩, fun k e => hd.lt e, Dv.ok.new h1 h2 h3 h4⟩, ?_, hb⟩
  rintro k (rfl | rfl | rfl | e)
  · exact hg
  · exact hb0
  · exact hb1
  · cases e

theorem writeO (S : Nat → Prop) (g : Nat) (d : Dv) (l : Lc) (s : List UInt8) (hn : d.ws.length ≤ 100000) (w : World) (h : DvO w S g d) :
    Calls Tryd.prog 26 #[.pointer (some ⟨g, 0, none⟩), .agg #[.int .i64 l.dev, .int .i64 l.pos], .string (bstr s)] w fun e w' => e = .returned (.int .i64 (mayE d l s)) ∧ DvPost w S g (d.write l s) w' := by
  have hO := h
  obtain ⟨⟨b0, b1, v, h1, h2⟩, h3, h4⟩ := h
  by_cases he : mayE d l s = 0
  · refine (write_ok g b0 b1 v d l s (Lib.hid he) hn w h1).mono ?_
    rintro e w' ⟨⟨v', rfl, hd, hz⟩, hk⟩
    have ed : d.write l s = { d with ws := d.ws ++ [⟨l, s⟩] } := by unfold Dv.write; rw [if_pos he]
    rw [ed, he]
    refine ⟨rfl, DvO.post h2 hd (by rw [← ed]; exact h4.write l s) ?_ (hk.weak (Nat.le_refl _) (fun k e => h2 k (by rcases e with e | e; exact .inl e; exact .inr (.inr (.inr e)))))⟩
    rintro k (e | e | e | e)
    · exact .inl (h2 k (.inl e))
    · exact .inl (h2 k (.inr (.inl e)))
    · exact .inl (h2 k (.inr (.inr (.inl e))))
    · rcases hz k e with e | e
      · exact .inl (h2 k (.inr (.inr (.inr e))))
      · exact .inr e
  · refine (write_bad g b0 b1 v d l s (Lib.hid rfl) (by simpa using he) w h1).mono ?_
    rintro e w' ⟨rfl, hb⟩
    have ed : d.write l s = d := by unfold Dv.write; rw [if_neg he]
    rw [ed]
    exact ⟨rfl, hO.same hb⟩

theorem readO (S : Nat → Prop) (g : Nat) (d : Dv) (l : Lc) (hn : d.ws.length ≤ 100000) (w : World) (h : DvO w S g d) :
    Calls Tryd.prog 48 #[.pointer (some ⟨g, 0, none⟩), .agg #[.int .i64 l.dev, .int .i64 l.pos]] w fun e w' => e = .returned (.tuple #[.string (bstr (d.read l).1), .int .i64 (d.read l).2]) ∧ Below w.heap.size w w' := by
  obtain ⟨⟨b0, b1, v, h1, h2⟩, h3, h4⟩ := h
  exact dread_any g b0 b1 v d l hn w h1
theorem sizeO (S : Nat → Prop) (g : Nat) (d : Dv) (dev : Int) (w : World) (h : DvO w S g d) :
    Calls Tryd.prog 24 #[.pointer (some ⟨g, 0, none⟩), .int .i64 dev] w fun e w' => e = .returned (.int .i64 (if isB dev then (d.sec dev).length else 0)) ∧ w = w' := by
  obtain ⟨⟨b0, b1, v, h1, h2⟩, h3, h4⟩ := h
  exact size_any g b0 b1 v d dev w h1
theorem lostO (S : Nat → Prop) (g : Nat) (d : Dv) (dev : Int) (w : World) (h : DvO w S g d) :
    Calls Tryd.prog 25 #[.pointer (some ⟨g, 0, none⟩), .int .i64 dev] w fun e w' => e = .returned (.bool (isB dev && d.gone dev)) ∧ w = w' := by
  obtain ⟨⟨b0, b1, v, h1, h2⟩, h3, h4⟩ := h
  exact lost_any g b0 b1 v d dev w h1
theorem waitsO (S : Nat → Prop) (g : Nat) (d : Dv) (hn : d.ws.length ≤ 100000) (w : World) (h : DvO w S g d) :
    Calls Tryd.prog 20 #[.pointer (some ⟨g, 0, none⟩)] w fun e w' => ∃ u, e = .returned u ∧ w'.ownsRow w.heap.size 33 2 u d.ws.length (lcsV (d.ws.map Wr.loc)) ∧ Below w.heap.size w w' := by
  obtain ⟨⟨b0, b1, v, h1, h2⟩, h3, h4⟩ := h
  exact waits_any g b0 b1 v d hn w h1

theorem flushO (S : Nat → Prop) (g : Nat) (d : Dv) (hn : d.ws.length ≤ 100000) (w : World) (h : DvO w S g d) :
    Calls Tryd.prog 15 #[.pointer (some ⟨g, 0, none⟩)] w fun e w' => e = .returned (.int .i64 0) ∧ DvPost w S g d.flush w' := by
  obtain ⟨⟨b0, b1, v, h1, h2⟩, h3, h4⟩ := h
  refine (flush_any g b0 b1 v d h4.ws hn w h1).mono ?_
  rintro e w' ⟨rfl, hd, hk⟩
  refine ⟨rfl, DvO.post h2 hd h4.flush ?_ (hk.weak (Nat.le_refl _) (fun k e => h2 k (by rcases e with e | e | e; exact .inl e; exact .inr (.inl e); exact .inr (.inr (.inl e)))))⟩
  rintro k (e | e | e | e)
  · exact .inl (h2 k (.inl e))
  · exact .inl (h2 k (.inr (.inl e)))
  · exact .inl (h2 k (.inr (.inr (.inl e))))
  · cases e

/-- a slice of bools that came in, or that is none -/
def BoolsAt (T : Nat → Prop) (w : World) (A : Option Addr) (kl : List Bool) : Prop := ∀ i (h : i < kl.length), ∃ ad : Addr, A = some ad ∧ ad.block < w.heap.size ∧ T ad.block ∧ w.cell? (ad.add i) = some (.bool kl[i])
theorem crashO (S : Nat → Prop) (g : Nat) (d : Dv) (A : Option Addr) (c : Nat) (kl : List Bool) (hn : d.ws.length ≤ 100000) (w : World) (h : DvO w S g d) (hk : BoolsAt (fun k => ¬ S k) w A kl) :
    Calls Tryd.prog 21 #[.pointer (some ⟨g, 0, none⟩), .slice A kl.length c] w fun e w' => e = .returned (.int .i64 0) ∧ DvPost w S g (d.crash kl) w' := by
  obtain ⟨⟨b0, b1, v, h1, h2⟩, h3, h4⟩ := h
  refine (crash_any g b0 b1 v d A c kl h4.ws hn w h1 ?_).mono ?_
  · intro i hi
    obtain ⟨ad, e1, e2, e3, e4⟩ := hk i hi
    exact ⟨ad, e1, e2, fun e => e3 (h2 _ (.inr (.inl e))), fun e => e3 (h2 _ (.inr (.inr (.inl e)))), e4⟩
  rintro e w' ⟨rfl, hd, hk⟩
  refine ⟨rfl, DvO.post h2 hd (h4.crash kl) ?_ (hk.weak (Nat.le_refl _) (fun k e => h2 k (by rcases e with e | e | e; exact .inl e; exact .inr (.inl e); exact .inr (.inr (.inl e)))))⟩
  rintro k (e | e | e | e)
  · exact .inl (h2 k (.inl e))
  · exact .inl (h2 k (.inr (.inl e)))
  · exact .inl (h2 k (.inr (.inr (.inl e))))
  · cases e

theorem loseO (S : Nat → Prop) (g : Nat) (d : Dv) (dev : Int) (hn : d.ws.length ≤ 100000) (w : World) (h : DvO w S g d) :
    Calls Tryd.prog 16 #[.pointer (some ⟨g, 0, none⟩), .int .i64 dev] w fun e w' => e = .returned (.int .i64 (if isB dev then 0 else 1)) ∧ DvPost w S g (d.lose dev) w' := by
  have hO := h
  obtain ⟨⟨b0, b1, v, h1, h2⟩, h3, h4⟩ := h
  have fin : ∀ {v' : Value} {k : Nat}, zblock v' = zblock v → dvB g b0 b1 v' k → S k ∨ w.heap.size ≤ k := by
    rintro v' k hz (e | e | e | e)
    · exact .inl (h2 k (.inl e))
    · exact .inl (h2 k (.inr (.inl e)))
    · exact .inl (h2 k (.inr (.inr (.inl e))))
    · rw [hz] at e; exact .inl (h2 k (.inr (.inr (.inr e))))
  by_cases e0 : dev = 0
  · subst e0
    refine (lose0 g b0 b1 v d h4.p0 hn w h1).mono ?_
    rintro e w' ⟨⟨v', rfl, hd, hz⟩, hk⟩
    exact ⟨rfl, DvO.post h2 (by simpa [Dv.lose] using hd) (h4.lose 0) (fun k e => fin hz e) (hk.weak (Nat.le_refl _) h2)⟩
  · by_cases e1 : dev = 1
    · subst e1
      refine (lose1 g b0 b1 v d h4.p1 hn w h1).mono ?_
      rintro e w' ⟨⟨v', rfl, hd, hz⟩, hk⟩
      exact ⟨rfl, DvO.post h2 (by simpa [Dv.lose] using hd) (h4.lose 1) (fun k e => fin hz e) (hk.weak (Nat.le_refl _) h2)⟩
    · have hb : isB dev = false := by simp [isB, e0, e1]
      refine (lose_bad g b0 b1 v d dev (Lib.hid hb) w h1).mono ?_
      rintro e w' ⟨rfl, hk⟩
      have ed : d.lose dev = d := by unfold Dv.lose; rw [if_neg e0, if_neg e1]
      rw [ed, hb]
      exact ⟨rfl, hO.same hk⟩

theorem spoilO (S : Nat → Prop) (g : Nat) (d : Dv) (l : Lc) (s : List UInt8) (hn : d.ws.length ≤ 100000) (w : World) (h : DvO w S g d) :
    Calls Tryd.prog 11 #[.pointer (some ⟨g, 0, none⟩), .agg #[.int .i64 l.dev, .int .i64 l.pos], .string (bstr s)] w fun e w' => e = .returned (.int .i64 (mayE d l s)) ∧ DvPost w S g (d.spoilAt l s) w' := by
  have hO := h
  obtain ⟨⟨b0, b1, v, h1, h2⟩, h3, h4⟩ := h
  by_cases he : mayE d l s = 0
  · refine (spoil_ok g b0 b1 v d l s (Lib.hid he) hn w h1).mono ?_
    rintro e w' ⟨⟨v', rfl, hd, hz⟩, hk⟩
    have ed : d.spoilAt l s = d.spoil ⟨l, s⟩ := by unfold Dv.spoilAt; rw [if_pos he]
    have ok := h4.spoilAt l s
    rw [ed] at ok
    rw [ed, he]
    refine ⟨rfl, DvO.post h2 hd ok ?_ (hk.weak (Nat.le_refl _) h2)⟩
    rintro k (e | e | e | e)
    · exact .inl (h2 k (.inl e))
    · exact .inl (h2 k (.inr (.inl e)))
    · exact .inl (h2 k (.inr (.inr (.inl e))))
    · rw [hz] at e; exact .inl (h2 k (.inr (.inr (.inr e))))
  · refine (spoil_bad g b0 b1 v d l s (Lib.hid rfl) (by simpa using he) w h1).mono ?_
    rintro e w' ⟨rfl, hb⟩
    have ed : d.spoilAt l s = d := by unfold Dv.spoilAt; rw [if_neg he]
    rw [ed]
    exact ⟨rfl, hO.same hb⟩


end Go.Proofs.YtmdjbmhjnajpgaaDoor
namespace Go.Proofs.YtmdjbmhjnajpgaaDoor
open Go.RowKit
set_option linter.unusedSimpArgs false
set_option linter.unnecessarySimpa false
set_option linter.unusedVariables false

theorem Keep.belowS {S : Nat → Prop} {w w1 w2 : World} (h : Below w.heap.size w w1) (k : Keep w1.heap.size S w1 w2) (hS : ∀ j, S j → w.heap.size ≤ j) : Below w.heap.size w w2 :=
  h.trans (Keep.below (k.mono h.size (fun j hj e => absurd (hS j e) (by omega))))
/-- devices that a walk has made: all their blocks are new since w -/
structure Lv (w wi : World) (S : Nat → Prop) (g : Nat) (d : Dv) : Prop where
  o : DvO wi S g d
  lo : ∀ j, S j → w.heap.size ≤ j
/-- what a call on them leaves -/
def LvPost (w wi : World) (S : Nat → Prop) (g : Nat) (d : Dv) (wj : World) : Prop := ∃ S', Lv w wj S' g d ∧ (∀ k, S' k → S k ∨ wi.heap.size ≤ k) ∧ Keep wi.heap.size S wi wj ∧ Below w.heap.size w wj
section
variable {w wi wj : World} {S S2 : Nat → Prop} {g g2 : Nat} {d d2 : Dv}
theorem Lv.below (h : Lv w wi S g d) (hb : Below wi.heap.size wi wj) : Lv w wj S g d := ⟨h.o.below hb, h.lo⟩
theorem Lv.keep {T : Nat → Prop} (h : Lv w wi S g d) (hk : Keep wi.heap.size T wi wj) (hST : ∀ k, S k → ¬ T k) : Lv w wj S g d := ⟨h.o.keep hk hST, h.lo⟩
theorem Lv.post (h : Lv w wi S g d) (hb : Below w.heap.size w wi) (hp : DvPost wi S g d2 wj) : LvPost w wi S g d2 wj := by
  obtain ⟨S', h1, h2, h3⟩ := hp
  refine ⟨S', ⟨h1, fun j e => ?_⟩, h2, h3, Keep.belowS hb h3 h.lo⟩
  rcases h2 j e with e | e
  · exact h.lo j e
  · exact Nat.le_trans hb.size e
/-- two devices keep apart -/
theorem apart_grow {S S' T : Nat → Prop} {n : Nat} (h : ∀ k, T k → ¬ S k) (hT : ∀ k, T k → k < n) (hS : ∀ k, S' k → S k ∨ n ≤ k) : ∀ k, T k → ¬ S' k := by
  intro k hk hs
  rcases hS k hs with e | e
  · exact h k hk e
  · have := hT k hk; omega
end

theorem newL (n m : Nat) (h1 : 1 ≤ n) (h2 : n ≤ 512) (h3 : 1 ≤ m) (h4 : m ≤ 512) (w wi : World) (hb : Below w.heap.size w wi) :
    Calls Tryd.prog 9 #[.int .i64 n, .int .i64 m] wi fun e wj => ∃ g S, e = .returned (.pointer (some ⟨g, 0, none⟩)) ∧ Lv w wj S g (Dv.new n m) ∧ (∀ k, S k → wi.heap.size ≤ k) ∧ Below wi.heap.size wi wj := by
  refine (newO n m h1 h2 h3 h4 wi).mono ?_
  rintro e wj ⟨g, S, rfl, hd, hS, hk⟩
  exact ⟨g, S, rfl, ⟨hd, fun j e => Nat.le_trans hb.size (hS j e)⟩, hS, hk⟩
theorem writeL {e0 : Int} (S : Nat → Prop) (g : Nat) (d : Dv) (l : Lc) (s : List UInt8) (he : mayE d l s = e0) (hn : d.ws.length ≤ 100000) (w wi : World) (hb : Below w.heap.size w wi) (h : Lv w wi S g d) :
    Calls Tryd.prog 26 #[.pointer (some ⟨g, 0, none⟩), .agg #[.int .i64 l.dev, .int .i64 l.pos], .string (bstr s)] wi fun e wj => e = .returned (.int .i64 e0) ∧ LvPost w wi S g (d.write l s) wj := by
  subst he
  exact (writeO S g d l s hn wi h.o).mono fun e wj ⟨h1, h2⟩ => ⟨h1, h.post hb h2⟩
theorem spoilL {e0 : Int} (S : Nat → Prop) (g : Nat) (d : Dv) (l : Lc) (s : List UInt8) (he : mayE d l s = e0) (hn : d.ws.length ≤ 100000) (w wi : World) (hb : Below w.heap.size w wi) (h : Lv w wi S g d) :
    Calls Tryd.prog 11 #[.pointer (some ⟨g, 0, none⟩), .agg #[.int .i64 l.dev, .int .i64 l.pos], .string (bstr s)] wi fun e wj => e = .returned (.int .i64 e0) ∧ LvPost w wi S g (d.spoilAt l s) wj := by
  subst he
  exact (spoilO S g d l s hn wi h.o).mono fun e wj ⟨h1, h2⟩ => ⟨h1, h.post hb h2⟩
theorem flushL (S : Nat → Prop) (g : Nat) (d : Dv) (hn : d.ws.length ≤ 100000) (w wi : World) (hb : Below w.heap.size w wi) (h : Lv w wi S g d) :
    Calls Tryd.prog 15 #[.pointer (some ⟨g, 0, none⟩)] wi fun e wj => e = .returned (.int .i64 0) ∧ LvPost w wi S g d.flush wj :=
  (flushO S g d hn wi h.o).mono fun e wj ⟨h1, h2⟩ => ⟨h1, h.post hb h2⟩
theorem crashL (S : Nat → Prop) (g : Nat) (d : Dv) (A : Option Addr) (n c : Nat) (kl : List Bool) (hkl : n = kl.length) (hn : d.ws.length ≤ 100000) (w wi : World) (hk : BoolsAt (fun k => ¬ S k) wi A kl) (hb : Below w.heap.size w wi) (h : Lv w wi S g d) :
    Calls Tryd.prog 21 #[.pointer (some ⟨g, 0, none⟩), .slice A n c] wi fun e wj => e = .returned (.int .i64 0) ∧ LvPost w wi S g (d.crash kl) wj := by
  subst hkl
  exact (crashO S g d A c kl hn wi h.o hk).mono fun e wj ⟨h1, h2⟩ => ⟨h1, h.post hb h2⟩
theorem loseL {e0 : Int} (S : Nat → Prop) (g : Nat) (d : Dv) (dev : Int) (he : (if isB dev then (0 : Int) else 1) = e0) (hn : d.ws.length ≤ 100000) (w wi : World) (hb : Below w.heap.size w wi) (h : Lv w wi S g d) :
    Calls Tryd.prog 16 #[.pointer (some ⟨g, 0, none⟩), .int .i64 dev] wi fun e wj => e = .returned (.int .i64 e0) ∧ LvPost w wi S g (d.lose dev) wj := by
  subst he
  exact (loseO S g d dev hn wi h.o).mono fun e wj ⟨h1, h2⟩ => ⟨h1, h.post hb h2⟩
theorem readL {r : List UInt8} {e0 : Int} (S : Nat → Prop) (g : Nat) (d : Dv) (l : Lc) (he : d.read l = (r, e0)) (hn : d.ws.length ≤ 100000) (w wi : World) (h : Lv w wi S g d) :
    Calls Tryd.prog 48 #[.pointer (some ⟨g, 0, none⟩), .agg #[.int .i64 l.dev, .int .i64 l.pos]] wi fun e wj => e = .returned (.tuple #[.string (bstr r), .int .i64 e0]) ∧ Below wi.heap.size wi wj := by
  have := readO S g d l hn wi h.o
  rw [he] at this
  exact this
theorem sizeL {n0 : Int} (S : Nat → Prop) (g : Nat) (d : Dv) (dev : Int) (he : (if isB dev then ((d.sec dev).length : Int) else 0) = n0) (w wi : World) (h : Lv w wi S g d) :
    Calls Tryd.prog 24 #[.pointer (some ⟨g, 0, none⟩), .int .i64 dev] wi fun e wj => e = .returned (.int .i64 n0) ∧ wi = wj := by
  subst he
  refine (sizeO S g d dev wi h.o).mono ?_
  rintro e wj ⟨rfl, rfl⟩
  exact ⟨by cases isB dev <;> rfl, rfl⟩
theorem lostL {b0 : Bool} (S : Nat → Prop) (g : Nat) (d : Dv) (dev : Int) (he : (isB dev && d.gone dev) = b0) (w wi : World) (h : Lv w wi S g d) :
    Calls Tryd.prog 25 #[.pointer (some ⟨g, 0, none⟩), .int .i64 dev] wi fun e wj => e = .returned (.bool b0) ∧ wi = wj := by
  subst he
  exact lostO S g d dev wi h.o
theorem waitsL (S : Nat → Prop) (g : Nat) (d : Dv) (hn : d.ws.length ≤ 100000) (w wi : World) (h : Lv w wi S g d) :
    Calls Tryd.prog 20 #[.pointer (some ⟨g, 0, none⟩)] wi fun e wj => ∃ u, e = .returned u ∧ wj.ownsRow wi.heap.size 33 2 u d.ws.length (lcsV (d.ws.map Wr.loc)) ∧ Below wi.heap.size wi wj := waitsO S g d hn wi h.o
theorem waitsL0 (S : Nat → Prop) (g : Nat) (d : Dv) (hn : d.ws = []) (w wi : World) (h : Lv w wi S g d) :
    Calls Tryd.prog 20 #[.pointer (some ⟨g, 0, none⟩)] wi fun e wj => (∃ A c, e = .returned (.slice A 0 c)) ∧ Below wi.heap.size wi wj := by
  refine (waitsO S g d (by rw [hn]; simp) wi h.o).mono ?_
  rintro e wj ⟨u, rfl, ho, hb⟩
  rw [hn] at ho
  rcases ho.2 with ⟨rfl, _⟩ | ⟨g', cap, cur, rfl, _⟩
  · exact ⟨⟨_, _, rfl⟩, hb⟩
  · exact ⟨⟨_, _, rfl⟩, hb⟩

/-! live -/


end Go.Proofs.YtmdjbmhjnajpgaaDoor
