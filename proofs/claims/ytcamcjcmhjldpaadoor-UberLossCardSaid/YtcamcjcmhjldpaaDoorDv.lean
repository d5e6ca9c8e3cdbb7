/- Package dev: two devices in memory; contracts of is, Size, Lost: no condition but the devices' own. -/
import Derived.Test.YtcamcjcmhjldpaaDoorOwn
namespace Go.Proofs.YtcamcjcmhjldpaaDoor
open Go.RowKit
set_option linter.unusedSimpArgs false
set_option linter.unnecessarySimpa false
set_option linter.unusedVariables false

structure Lc where
  dev : Int
  pos : Int
deriving DecidableEq
/-- a write that waits -/
structure Wr where
  loc : Lc
  text : List UInt8
deriving DecidableEq
def wrV (x : Wr) : List Value := [.int .i64 x.loc.dev, .int .i64 x.loc.pos, .string (bstr x.text)]
def wrsV (l : List Wr) : List Value := l.flatMap wrV
/-- the cells of a device's sectors -/
def secV (l : List (List UInt8)) : List Value := l.map fun s => Value.string (bstr s)
/-- two devices -/
structure Dv where
  s0 : List (List UInt8)
  s1 : List (List UInt8)
  l0 : Bool
  l1 : Bool
  ws : List Wr
/-- devices in memory: the struct in block g, sectors in rows at b0 and b1, what waits in a row of its own -/
structure DvAt (w : World) (g b0 b1 : Nat) (v : Value) (d : Dv) : Prop where
  hx : ∃ c0 c1, Blk w g 75 #[.slice (some ⟨b0, 0, none⟩) d.s0.length c0, .slice (some ⟨b1, 0, none⟩) d.s1.length c1, .bool d.l0, .bool d.l1, v] ∧
    w.ownsRow 0 9 1 (.slice (some ⟨b0, 0, none⟩) d.s0.length c0) d.s0.length (secV d.s0) ∧ w.ownsRow 0 9 1 (.slice (some ⟨b1, 0, none⟩) d.s1.length c1) d.s1.length (secV d.s1)
  hw : Owns w 82 3 v d.ws.length (wrsV d.ws)
  ne : b0 ≠ b1
/-- the blocks of devices -/
def dvB (g b0 b1 : Nat) (v : Value) (k : Nat) : Prop := k = g ∨ k = b0 ∨ k = b1 ∨ zblock v = some k

theorem secV_get (l : List (List UInt8)) (i : Nat) (h : i < l.length) : (secV l)[i]? = some (.string (bstr l[i])) := by
  simp [secV, h]
theorem secV_set (l : List (List UInt8)) (i : Nat) (s : List UInt8) : (secV l).set i (.string (bstr s)) = secV (l.set i s) := by
  simp [secV, List.map_set]
theorem wrsV_snoc (l : List Wr) (x : Wr) : wrsV (l ++ [x]) = wrsV l ++ wrV x := by simp [wrsV]
theorem wr_info : (Tryd.prog.info? 82).map (fun i => (i.zero, i.size, i.bytes)) = some (some (.agg #[.int .i64 0, .int .i64 0, .string ⟨#[]⟩]), 3, 32) := by kernel_rfl
theorem wrsV_get : ∀ (l : List Wr) (i : Nat) (h : i < l.length), (wrsV l)[i * 3]? = some (.int .i64 l[i].loc.dev) ∧ (wrsV l)[i * 3 + 1]? = some (.int .i64 l[i].loc.pos) ∧ (wrsV l)[i * 3 + 2]? = some (.string (bstr l[i].text))
  | a :: l, 0, _ => by simp [wrsV, wrV]
  | a :: l, i + 1, h => by
    have := wrsV_get l i (by simpa using h)
    have e : wrsV (a :: l) = .int .i64 a.loc.dev :: .int .i64 a.loc.pos :: .string (bstr a.text) :: wrsV l := rfl
    rw [e, show (i + 1) * 3 = i * 3 + 1 + 1 + 1 by omega]
    simpa using this

section
variable {w w' : World} {g b0 b1 : Nat} {v : Value} {d : Dv}
theorem DvAt.lt (h : DvAt w g b0 b1 v d) {k : Nat} (hk : dvB g b0 b1 v k) : k < w.heap.size := by
  obtain ⟨c0, c1, hg, h0, h1⟩ := h.hx
  rcases hk with rfl | rfl | rfl | hk
  · exact hg.lt
  · exact row_lt h0
  · exact row_lt h1
  · exact h.hw.lt hk
theorem DvAt.moved (h : DvAt w g b0 b1 v d) (hb : ∀ k, dvB g b0 b1 v k → w'.heap[k]? = w.heap[k]?) : DvAt w' g b0 b1 v d := by
  obtain ⟨c0, c1, hg, h0, h1⟩ := h.hx
  exact ⟨⟨c0, c1, (hb g (.inl rfl)).trans hg, row_moved h0 (fun k e => by cases e; exact hb _ (.inr (.inl rfl))), row_moved h1 (fun k e => by cases e; exact hb _ (.inr (.inr (.inl rfl))))⟩, h.hw.moved (fun k e => hb k (.inr (.inr (.inr e)))), h.ne⟩
theorem DvAt.below (h : DvAt w g b0 b1 v d) (b : Below w.heap.size w w') : DvAt w' g b0 b1 v d := h.moved (fun k e => b.block k (h.lt e))
theorem DvAt.keep {B : Nat} {S : Nat → Prop} (h : DvAt w g b0 b1 v d) (hk : Keep B S w w') (hS : ∀ k, dvB g b0 b1 v k → k < B ∧ ¬ S k) : DvAt w' g b0 b1 v d := h.moved (fun k e => hk.block k (hS k e).1 (hS k e).2)
theorem DvAt.drew (h : DvAt w g b0 b1 v d) : DvAt w.drew g b0 b1 v d := h.moved (fun _ _ => rfl)
theorem DvAt.alloc (h : DvAt w g b0 b1 v d) (o : Obj) : DvAt (w.alloc o) g b0 b1 v d := h.below ((Below.refl _ _).alloc (Nat.le_refl _) o)
theorem DvAt.cell4 (h : DvAt w g b0 b1 v d) : w.cell? ⟨g, 4, none⟩ = some v ∧ w.frozen? ⟨g, 4, none⟩ = false := by
  obtain ⟨c0, c1, hg, h0, h1⟩ := h.hx
  have y := hg.cell 4
  simp at y
  exact ⟨y, hg.frozen 4⟩
theorem DvAt.ng0 (h : DvAt w g b0 b1 v d) : g ≠ b0 := by
  obtain ⟨c0, c1, hg, h0, h1⟩ := h.hx
  obtain ⟨cur, hc⟩ := row_blk h0
  rintro rfl; exact absurd (hg.type_eq' hc) (by decide)
theorem DvAt.ng1 (h : DvAt w g b0 b1 v d) : g ≠ b1 := by
  obtain ⟨c0, c1, hg, h0, h1⟩ := h.hx
  obtain ⟨cur, hc⟩ := row_blk h1
  rintro rfl; exact absurd (hg.type_eq' hc) (by decide)
theorem DvAt.zg (h : DvAt w g b0 b1 v d) : zblock v ≠ some g := by
  obtain ⟨c0, c1, hg, h0, h1⟩ := h.hx
  exact h.hw.ne hg (by decide)
theorem DvAt.z0 (h : DvAt w g b0 b1 v d) : zblock v ≠ some b0 := by
  obtain ⟨c0, c1, hg, h0, h1⟩ := h.hx
  exact h.hw.ne_row h0 (by decide)
theorem DvAt.z1 (h : DvAt w g b0 b1 v d) : zblock v ≠ some b1 := by
  obtain ⟨c0, c1, hg, h0, h1⟩ := h.hx
  exact h.hw.ne_row h1 (by decide)
theorem DvAt.form (h : DvAt w g b0 b1 v d) : ∃ A c, v = .slice A d.ws.length c ∧ d.ws.length ≤ c ∧ c ≤ maxLen := h.hw.form
/-- another list waits -/
theorem DvAt.setWs (h : DvAt w g b0 b1 v d) (u : Value) (l : List Wr) (hu : Owns w 82 3 u l.length (wrsV l)) : DvAt (w.setCell ⟨g, 4, none⟩ u) g b0 b1 u { d with ws := l } := by
  obtain ⟨c0, c1, hg, h0, h1⟩ := h.hx
  have n0 := h.ng0
  have n1 := h.ng1
  refine ⟨⟨c0, c1, ?_, row_set h0 (by intro e; cases e; exact n0 rfl) _, row_set h1 (by intro e; cases e; exact n1 rfl) _⟩, hu.set (hu.ne hg (by decide)) _, h.ne⟩
  have := hg.set_ 4 u
  simpa using this
end

def isB (dev : Int) : Bool := dev == 0 || dev == 1
def Dv.sec (d : Dv) (dev : Int) : List (List UInt8) := if dev = 0 then d.s0 else d.s1
def Dv.gone (d : Dv) (dev : Int) : Bool := if dev = 0 then d.l0 else d.l1
/-- may a text be read, or written, at a place -/
def mayE (d : Dv) (l : Lc) (s : List UInt8) : Int :=
  if !isB l.dev || (decide (l.pos < 0) || (decide (((d.sec l.dev).length : Int) ≤ l.pos) || decide (1024 < s.length))) then 1 else if d.gone l.dev then 5 else 0

set_option maxHeartbeats 1000000 in
theorem is_any (g : Nat) (dev : Int) (w : World) :
    Calls Tryd.prog 49 #[.pointer (some ⟨g, 0, none⟩), .int .i64 dev] w fun e w' => e = .returned (.bool (isB dev)) ∧ w = w' := by
  unfold isB
  go_enter Tryd.func49, Tryd.ntmps49
  go_wp2
  all_goals go_ret
  all_goals exact ⟨ret_bool (by simp_all), rfl⟩
set_option maxHeartbeats 1000000 in
theorem is_nil (dev : Int) (w : World) :
    Calls Tryd.prog 49 #[.pointer none, .int .i64 dev] w fun e w' => e = .returned (.bool false) ∧ w = w' := by
  go_enter Tryd.func49, Tryd.ntmps49
  go_wp2
  all_goals go_ret
  all_goals exact ⟨rfl, rfl⟩
theorem is_to {dev : Int} {b : Bool} (h : isB dev = b) (g : Nat) (w : World) :
    Calls Tryd.prog 49 #[.pointer (some ⟨g, 0, none⟩), .int .i64 dev] w fun e w' => e = .returned (.bool b) ∧ w = w' := by subst h; exact is_any g dev w



end Go.Proofs.YtcamcjcmhjldpaaDoor
