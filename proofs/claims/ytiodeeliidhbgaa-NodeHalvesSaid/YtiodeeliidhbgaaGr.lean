/- A struct's box whose two lists of texts grow: what is kept, what is new. -/
import Derived.Test.YtiodeeliidhbgaaNdF
namespace Go.Proofs.Ytiodeeliidhbgaa
open Go Go.RowKit
set_option linter.unusedSimpArgs false
set_option linter.unnecessarySimpa false
set_option linter.unusedVariables false

structure GrSt (T : TypeId) (w0 : World) (G : Nat) (leaf : Bool) (ks vs : List (List UInt8)) (n1 n2 : Nat) (vk vv : Value) (w : World) : Prop where
  b : Blk w G T #[.bool leaf, vk, vv]
  o1 : w.ownsRow w0.heap.size 9 1 vk n1 (secV ks)
  o2 : w.ownsRow w0.heap.size 9 1 vv n2 (secV vs)
  one : ∀ k, vk.ownBlock = some k → vv.ownBlock ≠ some k
  bel : Below w0.heap.size w0 w
  l : w0.heap.size ≤ G
/-- blocks of another type than the rows' that are not the box are as they were -/
def OtherB (G : Nat) (w w' : World) : Prop := ∀ j t cs, Blk w j t cs → t ≠ 9 → j ≠ G → Blk w' j t cs
section
variable {T : TypeId} {w0 w w' : World} {G n1 n2 : Nat} {leaf : Bool} {ks vs : List (List UInt8)} {vk vv : Value}
theorem GrSt.new (h : Below w0.heap.size w0 w) (hb : Blk w G T #[.bool leaf, .slice none 0 0, .slice none 0 0]) (hl : w0.heap.size ≤ G) : GrSt T w0 G leaf [] [] 0 0 (.slice none 0 0) (.slice none 0 0) w :=
  ⟨hb, World.ownsRow_nil _ _ _ _, World.ownsRow_nil _ _ _ _, by simp [Value.ownBlock], h, hl⟩
theorem GrSt.drew (h : GrSt T w0 G leaf ks vs n1 n2 vk vv w) : GrSt T w0 G leaf ks vs n1 n2 vk vv w.drew :=
  ⟨h.b.drew, row_below h.o1 (Below.refl _ _).drew, row_below h.o2 (Below.refl _ _).drew, h.one, h.bel.drew, h.l⟩
theorem GrSt.below (h : GrSt T w0 G leaf ks vs n1 n2 vk vv w) (k : Below w.heap.size w w') : GrSt T w0 G leaf ks vs n1 n2 vk vv w' :=
  ⟨h.b.below k h.b.lt, row_below h.o1 k, row_below h.o2 k, h.one, hthen h.bel k, h.l⟩
/-- a call that changes one other block -/
theorem GrSt.keep {g : Nat} {t : TypeId} {cs : Array Value} (h : GrSt T w0 G leaf ks vs n1 n2 vk vv w) (hg : Blk w g t cs) (ht : t ≠ 9) (hne : g ≠ G) (hl : w0.heap.size ≤ g) (k : Keep w.heap.size (· = g) w w') : GrSt T w0 G leaf ks vs n1 n2 vk vv w' :=
  ⟨h.b.keep k h.b.lt (fun e => hne e.symm), row_keep h.o1 k (fun j e => ⟨(h.o1.lt j e).2, fun e2 => row_ne h.o1 hg ht (by rw [e, e2])⟩), row_keep h.o2 k (fun j e => ⟨(h.o2.lt j e).2, fun e2 => row_ne h.o2 hg ht (by rw [e, e2])⟩), h.one, below_keep h.bel k h.bel.size (fun j e => by rw [e]; exact hl), h.l⟩
theorem GrSt.len (h : GrSt T w0 G leaf ks vs n1 n2 vk vv w) : ks.length = n1 ∧ vs.length = n2 := by
  have h1 := h.o1.1
  have h2 := h.o2.1
  rw [secV_len] at h1 h2
  omega
theorem GrSt.form (h : GrSt T w0 G leaf ks vs n1 n2 vk vv w) : ∃ A c C e, vk = .slice A n1 c ∧ vv = .slice C n2 e := by
  obtain ⟨A, c, rfl⟩ := orow_form h.o1
  obtain ⟨C, e, rfl⟩ := orow_form h.o2
  exact ⟨A, c, C, e, rfl, rfl⟩
theorem GrSt.nd (h : GrSt T w0 G leaf ks vs n1 n2 vk vv w) : NdV w (.agg #[.bool leaf, vk, vv]) ⟨leaf, ks, vs⟩ := ⟨_, _, rfl, ss_row h.o1, ss_row h.o2⟩
/-- a key more -/
theorem GrSt.app1 {X : List UInt8} {gn cap : Nat} (h : GrSt T w0 G leaf ks vs n1 n2 vk vv w) (hT : T ≠ 9) (hown : w'.ownsRow w0.heap.size 9 1 (.slice (some ⟨gn, 0, none⟩) (n1 + 1) cap) (n1 + 1) (secV ks ++ [.string (bstr X)])) (hgr : w.grownBy w' vk.ownBlock) (hat : vk.ownBlock = some gn ∨ gn = w.heap.size) :
    Blk w' G T #[.bool leaf, vk, vv] ∧ OtherB G w w' ∧ Below w0.heap.size w0 w' ∧ GrSt T w0 G leaf (ks ++ [X]) vs (n1 + 1) n2 (.slice (some ⟨gn, 0, none⟩) (n1 + 1) cap) vv (w'.setCell ⟨G, 1, none⟩ (.slice (some ⟨gn, 0, none⟩) (n1 + 1) cap)) ∧ OtherB G w (w'.setCell ⟨G, 1, none⟩ (.slice (some ⟨gn, 0, none⟩) (n1 + 1) cap)) := by
  have b := h.b.grown hgr (fun e => row_ne h.o1 h.b hT e.symm)
  have o2 := row_grown h.o2 hgr (fun j e e2 => h.one j e2 e)
  have one : ∀ j, (Value.slice (some ⟨gn, 0, none⟩) (n1 + 1) cap).ownBlock = some j → vv.ownBlock ≠ some j := by
    intro j e e2
    have hj : gn = j := by simpa [Value.ownBlock] using e
    rcases hat with e3 | e3
    · exact h.one j (by rw [e3, hj]) e2
    · have := (h.o2.lt j e2).2
      omega
  refine ⟨b, fun j t cs hb ht hj => hb.grown hgr (fun e => row_ne h.o1 hb ht e.symm), h.bel.grown hgr h.bel.size (fun j e => (h.o1.lt j e).1), ⟨by simpa using b.set_ 1 (.slice (some ⟨gn, 0, none⟩) (n1 + 1) cap), ?_, row_set o2 (row_ne o2 b hT) _, one, below_at (h.bel.grown hgr h.bel.size (fun j e => (h.o1.lt j e).1)) h.l _ _, h.l⟩, fun j t cs hb ht hj => (hb.grown hgr (fun e => row_ne h.o1 hb ht e.symm)).far (p := ⟨G, 1, none⟩) hj _⟩
  rw [← secV_snoc] at hown
  exact row_set hown (row_ne hown b hT) _
theorem GrSt.app2 {X : List UInt8} {gn cap : Nat} (h : GrSt T w0 G leaf ks vs n1 n2 vk vv w) (hT : T ≠ 9) (hown : w'.ownsRow w0.heap.size 9 1 (.slice (some ⟨gn, 0, none⟩) (n2 + 1) cap) (n2 + 1) (secV vs ++ [.string (bstr X)])) (hgr : w.grownBy w' vv.ownBlock) (hat : vv.ownBlock = some gn ∨ gn = w.heap.size) :
    Blk w' G T #[.bool leaf, vk, vv] ∧ OtherB G w w' ∧ Below w0.heap.size w0 w' ∧ GrSt T w0 G leaf ks (vs ++ [X]) n1 (n2 + 1) vk (.slice (some ⟨gn, 0, none⟩) (n2 + 1) cap) (w'.setCell ⟨G, 2, none⟩ (.slice (some ⟨gn, 0, none⟩) (n2 + 1) cap)) ∧ OtherB G w (w'.setCell ⟨G, 2, none⟩ (.slice (some ⟨gn, 0, none⟩) (n2 + 1) cap)) := by
  have b := h.b.grown hgr (fun e => row_ne h.o2 h.b hT e.symm)
  have o1 := row_grown h.o1 hgr (fun j e e2 => h.one j e e2)
  have one : ∀ j, vk.ownBlock = some j → (Value.slice (some ⟨gn, 0, none⟩) (n2 + 1) cap).ownBlock ≠ some j := by
    intro j e2 e
    have hj : gn = j := by simpa [Value.ownBlock] using e
    rcases hat with e3 | e3
    · exact h.one j e2 (by rw [e3, hj])
    · have := (h.o1.lt j e2).2
      omega
  refine ⟨b, fun j t cs hb ht hj => hb.grown hgr (fun e => row_ne h.o2 hb ht e.symm), h.bel.grown hgr h.bel.size (fun j e => (h.o2.lt j e).1), ⟨by simpa using b.set_ 2 (.slice (some ⟨gn, 0, none⟩) (n2 + 1) cap), row_set o1 (row_ne o1 b hT) _, ?_, one, below_at (h.bel.grown hgr h.bel.size (fun j e => (h.o2.lt j e).1)) h.l _ _, h.l⟩, fun j t cs hb ht hj => (hb.grown hgr (fun e => row_ne h.o2 hb ht e.symm)).far (p := ⟨G, 2, none⟩) hj _⟩
  rw [← secV_snoc] at hown
  exact row_set hown (row_ne hown b hT) _
/-- three cells of another block are written -/
theorem GrSt.ret {g : Nat} {t : TypeId} {cs : Array Value} (h : GrSt T w0 G leaf ks vs n1 n2 vk vv w) (hg : Blk w g t cs) (ht : t ≠ 9) (hl : w0.heap.size ≤ g) (a b c : Value) :
    NdV (((w.setCell ⟨g, 0, none⟩ a).setCell ⟨g, 1, none⟩ b).setCell ⟨g, 2, none⟩ c) (.agg #[.bool leaf, vk, vv]) ⟨leaf, ks, vs⟩ ∧ Below w0.heap.size w0 (((w.setCell ⟨g, 0, none⟩ a).setCell ⟨g, 1, none⟩ b).setCell ⟨g, 2, none⟩ c) ∧
      (((w.setCell ⟨g, 0, none⟩ a).setCell ⟨g, 1, none⟩ b).setCell ⟨g, 2, none⟩ c).ownsRow w0.heap.size 9 1 vk n1 (secV ks) ∧ (((w.setCell ⟨g, 0, none⟩ a).setCell ⟨g, 1, none⟩ b).setCell ⟨g, 2, none⟩ c).ownsRow w0.heap.size 9 1 vv n2 (secV vs) := by
  have l1 := row_ne h.o1 hg ht
  have l2 := row_ne h.o2 hg ht
  have e1 := row_set (i := 2) (row_set (i := 1) (row_set (i := 0) h.o1 l1 a) l1 b) l1 c
  have e2 := row_set (i := 2) (row_set (i := 1) (row_set (i := 0) h.o2 l2 a) l2 b) l2 c
  exact ⟨⟨_, _, rfl, ss_row e1, ss_row e2⟩, below_at (below_at (below_at h.bel hl _ _) hl _ _) hl _ _, e1, e2⟩
theorem GrSt.ret2 {g : Nat} {t : TypeId} {cs : Array Value} (h : GrSt T w0 G leaf ks vs n1 n2 vk vv w) (hg : Blk w g t cs) (ht : t ≠ 9) (a b c : Value) :
    NdV (((w.setCell ⟨g, 0, none⟩ a).setCell ⟨g, 1, none⟩ b).setCell ⟨g, 2, none⟩ c) (.agg #[.bool leaf, vk, vv]) ⟨leaf, ks, vs⟩ := by
  have l1 := row_ne h.o1 hg ht
  have l2 := row_ne h.o2 hg ht
  exact ⟨_, _, rfl, ss_row (row_set (row_set (row_set h.o1 l1 _) l1 _) l1 _), ss_row (row_set (row_set (row_set h.o2 l2 _) l2 _) l2 _)⟩
theorem NdV.at3 {w w' : World} {v : Value} {n : Nd} {g : Nat} (h : NdV w v n) (k : Below w.heap.size w w') (hl : w.heap.size ≤ g) (a b c : Value) :
    NdV (((w'.setCell ⟨g, 0, none⟩ a).setCell ⟨g, 1, none⟩ b).setCell ⟨g, 2, none⟩ c) v n ∧ Below w.heap.size w (((w'.setCell ⟨g, 0, none⟩ a).setCell ⟨g, 1, none⟩ b).setCell ⟨g, 2, none⟩ c) := by
  have e := below_at (below_at (below_at k hl 0 a) hl 1 b) hl 2 c
  exact ⟨h.below e, e⟩
theorem Blk.put3 {w : World} {g : Nat} {t : TypeId} {a0 b0 c0 : Value} (h : Blk w g t #[a0, b0, c0]) (a b c : Value) : Blk (((w.setCell ⟨g, 0, none⟩ a).setCell ⟨g, 1, none⟩ b).setCell ⟨g, 2, none⟩ c) g t #[a, b, c] := by
  simpa using ((h.set_ 0 a).set_ 1 b).set_ 2 c
end
end Go.Proofs.Ytiodeeliidhbgaa
