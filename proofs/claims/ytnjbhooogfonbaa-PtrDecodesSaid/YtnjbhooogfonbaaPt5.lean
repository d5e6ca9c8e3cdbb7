/- Decode of a pointer: the program's. -/
import Derived.Test.YtnjbhooogfonbaaPt4
import Derived.Test.YtnjbhooogfonbaaRd2
namespace Go.Proofs.Ytnjbhooogfonbaa
open Go.RowKit
set_option linter.unusedSimpArgs false
set_option linter.unnecessarySimpa false
set_option linter.unusedVariables false

def readLocs : Nat → Rd → List Lc × Rd
  | 0, r => ([], r)
  | k + 1, r => (⟨(r.number 1).1, ((r.number 1).2.number 2).1⟩ :: (readLocs k ((r.number 1).2.number 2).2).1, (readLocs k ((r.number 1).2.number 2).2).2)

/-- while a pointer is read: its box, the reader, the frame -/
structure DecSt (w : World) (G g : Nat) (cs : Array Value) (r : Rd) (w' : World) : Prop where
  hb : Blk w' G 24 cs
  hr : RdAt w' g r
  k : Below w.heap.size w w'
theorem DecSt.rd {w w1 w2 : World} {G g : Nat} {cs : Array Value} {r r2 : Rd} (h : DecSt w G g cs r w1) (hG : G < g) (hw : w.heap.size ≤ g) (hr : RdAt w2 g r2) (k : Keep w1.heap.size (· = g) w1 w2) : DecSt w G g cs r2 w2 :=
  ⟨h.hb.keep k h.hb.lt (by omega), hr, h.k.trans (k.mono (S' := fun _ => False) h.k.size (fun j hj e => by omega)).below⟩
theorem DecSt.below {w w1 w2 : World} {G g : Nat} {cs : Array Value} {r : Rd} (h : DecSt w G g cs r w1) (b : Below w1.heap.size w1 w2) : DecSt w G g cs r w2 :=
  ⟨h.hb.below b h.hb.lt, h.hr.below b h.hr.lt, h.k.trans (b.mono h.k.size)⟩

def lcV (l : Lc) : List Value := [.int .i64 l.dev, .int .i64 l.pos]
def lcsV (l : List Lc) : List Value := l.flatMap lcV
theorem lcsV_snoc (l : List Lc) (x : Lc) : lcsV (l ++ [x]) = lcsV l ++ lcV x := by simp [lcsV]
theorem lcsV_get : ∀ (l : List Lc) (i : Nat) (h : i < l.length), (lcsV l)[i * 2]? = some (.int .i64 l[i].dev) ∧ (lcsV l)[i * 2 + 1]? = some (.int .i64 l[i].pos)
  | a :: l, 0, _ => by simp [lcsV, lcV]
  | a :: l, i + 1, h => by
    have := lcsV_get l i (by simpa using h)
    have e : lcsV (a :: l) = .int .i64 a.dev :: .int .i64 a.pos :: lcsV l := rfl
    rw [e, show (i + 1) * 2 = i * 2 + 1 + 1 by omega]
    simpa using this
abbrev OwnL (B : Nat) (w : World) (v : Value) (l : List Lc) : Prop := w.ownsRow B 31 2 v l.length (lcsV l)
theorem OwnL.locs {B : Nat} {w : World} {v : Value} {l : List Lc} (h : OwnL B w v l) : LocsAt w.heap.size w v l := by
  rcases h.2 with ⟨rfl, h0⟩ | ⟨g, cap, cur, rfl, hg, hc, hle, hmax, hsz, htake⟩
  · refine ⟨none, 0, by rw [h0], by omega, by omega, fun h1 => by omega⟩
  · refine ⟨_, cap, rfl, hle, by unfold maxLen at hmax; omega, fun _ => ⟨_, rfl, Blk.lt hc, fun i hi => ?_⟩⟩
    obtain ⟨e1, e2⟩ := lcsV_get l i hi
    exact ⟨h.cells (g := g) rfl _ _ e1, h.cells (g := g) rfl _ _ e2⟩
theorem own_ne {w : World} {B n size g : Nat} {e t : TypeId} {v : Value} {xs : List Value} {cs : Array Value} (h : w.ownsRow B e size v n xs) (hb : Blk w g t cs) (hte : t ≠ e) : v.ownBlock ≠ some g := by
  rcases h.2 with ⟨rfl, _⟩ | ⟨k, cap, cur, rfl, _, hc, _⟩
  · simp [Value.ownBlock]
  · intro e
    simp [Value.ownBlock] at e
    subst e
    exact hte (hb.type_eq hc)
theorem own_kept {w w' : World} {B n size g : Nat} {e : TypeId} {v : Value} {xs : List Value} {W : Nat} (h : w.ownsRow B e size v n xs) (k : Keep W (· = g) w w') (hW : w.heap.size ≤ W) (hne : v.ownBlock ≠ some g) : w'.ownsRow B e size v n xs := by
  refine ⟨h.1, ?_⟩
  rcases h.2 with h0 | ⟨k2, cap, cur, hv, hg, hc, hr⟩
  · exact .inl h0
  · refine .inr ⟨k2, cap, cur, hv, hg, (k.block k2 (Nat.lt_of_lt_of_le (Blk.lt hc) hW) ?_).trans hc, hr⟩
    intro e
    subst hv
    exact hne (by simp [Value.ownBlock, e])
theorem own_set {w : World} {B n size g i : Nat} {e : TypeId} {v : Value} {xs : List Value} (h : w.ownsRow B e size v n xs) (hne : v.ownBlock ≠ some g) (u : Value) : (w.setCell ⟨g, i, none⟩ u).ownsRow B e size v n xs :=
  own_kept (g := g) (W := w.heap.size) h ((Keep.refl _ _ _).set1 i u) (Nat.le_refl _) hne

/-- in the loop: the result's box, the pointer's box, the reader, the places -/
structure LoopSt (w : World) (G g P : Nat) (v : Value) (pre : List Lc) (r : Rd) (w' : World) : Prop where
  hG : Blk w' G 24 #[.slice none 0 0, .int .i64 0, .int .i64 0, .string ⟨#[]⟩]
  hb : Blk w' P 24 #[v, .int .i64 0, .int .i64 0, .string ⟨#[]⟩]
  hr : RdAt w' g r
  k : Below w.heap.size w w'
  own : OwnL P w' v pre
theorem LoopSt.rd {w w1 w2 : World} {G g P : Nat} {v : Value} {pre : List Lc} {r r2 : Rd} (h : LoopSt w G g P v pre r w1) (hG : G < g) (hP : g < P) (hw : w.heap.size ≤ G) (hr : RdAt w2 g r2) (k : Keep w1.heap.size (· = g) w1 w2) : LoopSt w G g P v pre r2 w2 :=
  ⟨h.hG.keep k h.hG.lt (by omega), h.hb.keep k h.hb.lt (by omega), hr, h.k.trans (k.mono (S' := fun _ => False) h.k.size (fun j hj e => by omega)).below, own_kept h.own k (Nat.le_refl _) (own_ne h.own h.hr (by decide))⟩
theorem LoopSt.below {w w1 w2 : World} {G g P : Nat} {v : Value} {pre : List Lc} {r : Rd} (h : LoopSt w G g P v pre r w1) (b : Below w1.heap.size w1 w2) : LoopSt w G g P v pre r w2 :=
  ⟨h.hG.below b h.hG.lt, h.hb.below b h.hb.lt, h.hr.below b h.hr.lt, h.k.trans (b.mono h.k.size), own_below h.own b⟩
theorem LoopSt.store {w w1 w2 : World} {G g P : Nat} {v v' : Value} {pre pre' : List Lc} {r : Rd} (h : LoopSt w G g P v pre r w1) (hG : G < g) (hP : g < P) (hw : w.heap.size ≤ G) (own : OwnL P w2 v' pre') (hg : w1.grownBy w2 v.ownBlock) :
    LoopSt w G g P v' pre' r (w2.setCell ⟨P, 0, none⟩ v') := by
  have o1 := own_ne h.own h.hG (by decide)
  have o2 := own_ne h.own h.hb (by decide)
  have o3 := own_ne h.own h.hr (by decide)
  have p1 := h.hG.grown hg (fun e => o1 e.symm)
  have p2 := h.hb.grown hg (fun e => o2 e.symm)
  have p3 := Blk.grown h.hr hg (fun e => o3 e.symm)
  have kk : Below w.heap.size w w2 := h.k.grown hg h.k.size (fun k hk => by have := (h.own.lt k hk).1; omega)
  exact ⟨p1.far (p := ⟨P, 0, none⟩) (by show G ≠ P; omega) _, p2.set_ 0 _, p3.far (p := ⟨P, 0, none⟩) (by show g ≠ P; omega) _, kk.setCell (p := ⟨P, 0, none⟩) (by show w.heap.size ≤ P; omega) _, own_set own (own_ne own p2 (by decide)) _⟩

end Go.Proofs.Ytnjbhooogfonbaa
