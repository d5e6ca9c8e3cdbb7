/- Package dev: its contracts as the walks of laws use them; live: it answers true. -/
import Derived.Test.YtcamcjcmhjldpaaDoorDvI
namespace Go.Proofs.YtcamcjcmhjldpaaDoor
open Go.RowKit
set_option linter.unusedSimpArgs false
set_option linter.unnecessarySimpa false
set_option linter.unusedVariables false

theorem Keep.belowS {S : Nat → Prop} {w w1 w2 : World} (h : Below w.heap.size w w1) (k : Keep w1.heap.size S w1 w2) (hS : ∀ j, S j → w.heap.size ≤ j) : Below w.heap.size w w2 :=
  h.trans (Keep.below (k.mono h.size (fun j hj e => absurd (hS j e) (by omega))))
/-- devices that a walk has made: all their blocks are new since w -/
structure Lv (w wi : World) (S : Nat → Prop) (g : Nat) (d : Dv) : Prop where
  o : DvO wi S g d
  lo : ∀ j, S j → w.heap.size ≤ j
/-- what a call on them leaves -/
def LvPost (w wi : World) (S : Nat → Prop) (g : Nat) (d : Dv) (wj : World) : Prop := ∃ S', Lv w wj S' g d ∧ (∀ k, S' k → S k ∨ wi.heap.size ≤ k) ∧ Keep wi.heap.size S wi wj ∧ Below w.heap.size w wj
section
variable {w wi wj : World} {S S2 : Nat → Prop} {g g2 : Nat} {d d2 : Dv}
theorem Lv.below (h : Lv w wi S g d) (hb : Below wi.heap.size wi wj) : Lv w wj S g d := ⟨h.o.below hb, h.lo⟩
theorem Lv.keep {T : Nat → Prop} (h : Lv w wi S g d) (hk : Keep wi.heap.size T wi wj) (hST : ∀ k, S k → ¬ T k) : Lv w wj S g d := ⟨h.o.keep hk hST, h.lo⟩
theorem Lv.post (h : Lv w wi S g d) (hb : Below w.heap.size w wi) (hp : DvPost wi S g d2 wj) : LvPost w wi S g d2 wj := by
  obtain ⟨S', h1, h2, h3⟩ := hp
  refine ⟨S', ⟨h1, fun j e => ?_⟩, h2, h3, Keep.belowS hb h3 h.lo⟩
  rcases h2 j e with e | e
  · exact h.lo j e
  · exact Nat.le_trans hb.size e
/-- two devices keep apart -/
theorem apart_grow {S S' T : Nat → Prop} {n : Nat} (h : ∀ k, T k → ¬ S k) (hT : ∀ k, T k → k < n) (hS : ∀ k, S' k → S k ∨ n ≤ k) : ∀ k, T k → ¬ S' k := by
  intro k hk hs
  rcases hS k hs with e | e
  · exact h k hk e
  · have := hT k hk; omega
end

theorem newL (n m : Nat) (h1 : 1 ≤ n) (h2 : n ≤ 512) (h3 : 1 ≤ m) (h4 : m ≤ 512) (w wi : World) (hb : Below w.heap.size w wi) :
    Calls Tryd.prog 16 #[.int .i64 n, .int .i64 m] wi fun e wj => ∃ g S, e = .returned (.pointer (some ⟨g, 0, none⟩)) ∧ Lv w wj S g (Dv.new n m) ∧ (∀ k, S k → wi.heap.size ≤ k) ∧ Below wi.heap.size wi wj := by
  refine (newO n m h1 h2 h3 h4 wi).mono ?_
  rintro e wj ⟨g, S, rfl, hd, hS, hk⟩
  exact ⟨g, S, rfl, ⟨hd, fun j e => Nat.le_trans hb.size (hS j e)⟩, hS, hk⟩
theorem writeL {e0 : Int} (S : Nat → Prop) (g : Nat) (d : Dv) (l : Lc) (s : List UInt8) (he : mayE d l s = e0) (hn : d.ws.length ≤ 100000) (w wi : World) (hb : Below w.heap.size w wi) (h : Lv w wi S g d) :
    Calls Tryd.prog 40 #[.pointer (some ⟨g, 0, none⟩), .agg #[.int .i64 l.dev, .int .i64 l.pos], .string (bstr s)] wi fun e wj => e = .returned (.int .i64 e0) ∧ LvPost w wi S g (d.write l s) wj := by
  subst he
  exact (writeO S g d l s hn wi h.o).mono fun e wj ⟨h1, h2⟩ => ⟨h1, h.post hb h2⟩
theorem spoilL {e0 : Int} (S : Nat → Prop) (g : Nat) (d : Dv) (l : Lc) (s : List UInt8) (he : mayE d l s = e0) (hn : d.ws.length ≤ 100000) (w wi : World) (hb : Below w.heap.size w wi) (h : Lv w wi S g d) :
    Calls Tryd.prog 21 #[.pointer (some ⟨g, 0, none⟩), .agg #[.int .i64 l.dev, .int .i64 l.pos], .string (bstr s)] wi fun e wj => e = .returned (.int .i64 e0) ∧ LvPost w wi S g (d.spoilAt l s) wj := by
  subst he
  exact (spoilO S g d l s hn wi h.o).mono fun e wj ⟨h1, h2⟩ => ⟨h1, h.post hb h2⟩
theorem flushL (S : Nat → Prop) (g : Nat) (d : Dv) (hn : d.ws.length ≤ 100000) (w wi : World) (hb : Below w.heap.size w wi) (h : Lv w wi S g d) :
    Calls Tryd.prog 18 #[.pointer (some ⟨g, 0, none⟩)] wi fun e wj => e = .returned (.int .i64 0) ∧ LvPost w wi S g d.flush wj :=
  (flushO S g d hn wi h.o).mono fun e wj ⟨h1, h2⟩ => ⟨h1, h.post hb h2⟩
theorem crashL (S : Nat → Prop) (g : Nat) (d : Dv) (A : Option Addr) (n c : Nat) (kl : List Bool) (hkl : n = kl.length) (hn : d.ws.length ≤ 100000) (w wi : World) (hk : BoolsAt (fun k => ¬ S k) wi A kl) (hb : Below w.heap.size w wi) (h : Lv w wi S g d) :
    Calls Tryd.prog 19 #[.pointer (some ⟨g, 0, none⟩), .slice A n c] wi fun e wj => e = .returned (.int .i64 0) ∧ LvPost w wi S g (d.crash kl) wj := by
  subst hkl
  exact (crashO S g d A c kl hn wi h.o hk).mono fun e wj ⟨h1, h2⟩ => ⟨h1, h.post hb h2⟩
theorem loseL {e0 : Int} (S : Nat → Prop) (g : Nat) (d : Dv) (dev : Int) (he : (if isB dev then (0 : Int) else 1) = e0) (hn : d.ws.length ≤ 100000) (w wi : World) (hb : Below w.heap.size w wi) (h : Lv w wi S g d) :
    Calls Tryd.prog 22 #[.pointer (some ⟨g, 0, none⟩), .int .i64 dev] wi fun e wj => e = .returned (.int .i64 e0) ∧ LvPost w wi S g (d.lose dev) wj := by
  subst he
  exact (loseO S g d dev hn wi h.o).mono fun e wj ⟨h1, h2⟩ => ⟨h1, h.post hb h2⟩
theorem readL {r : List UInt8} {e0 : Int} (S : Nat → Prop) (g : Nat) (d : Dv) (l : Lc) (he : d.read l = (r, e0)) (hn : d.ws.length ≤ 100000) (w wi : World) (h : Lv w wi S g d) :
    Calls Tryd.prog 44 #[.pointer (some ⟨g, 0, none⟩), .agg #[.int .i64 l.dev, .int .i64 l.pos]] wi fun e wj => e = .returned (.tuple #[.string (bstr r), .int .i64 e0]) ∧ Below wi.heap.size wi wj := by
  have := readO S g d l hn wi h.o
  rw [he] at this
  exact this

/-! live -/


end Go.Proofs.YtcamcjcmhjldpaaDoor
