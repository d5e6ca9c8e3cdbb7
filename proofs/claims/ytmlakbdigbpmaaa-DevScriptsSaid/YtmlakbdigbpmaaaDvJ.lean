/- Package dev: its contracts as the walks of laws use them; live: it answers true. -/
import Derived.Test.YtmlakbdigbpmaaaDvI
namespace Go.Proofs.Ytmlakbdigbpmaaa
open Go.RowKit
set_option linter.unusedSimpArgs false
set_option linter.unnecessarySimpa false
set_option linter.unusedVariables false

theorem Keep.belowS {S : Nat → Prop} {w w1 w2 : World} (h : Below w.heap.size w w1) (k : Keep w1.heap.size S w1 w2) (hS : ∀ j, S j → w.heap.size ≤ j) : Below w.heap.size w w2 :=
  h.trans (Keep.below (k.mono h.size (fun j hj e => absurd (hS j e) (by omega))))
/-- devices that a walk has made: all their blocks are new since w -/
structure Lv (w wi : World) (S : Nat → Prop) (g : Nat) (d : Dv) : Prop where
  o : DvO wi S g d
  lo : ∀ j, S j → w.heap.size ≤ j
/-- what a call on them leaves -/
def LvPost (w wi : World) (S : Nat → Prop) (g : Nat) (d : Dv) (wj : World) : Prop := ∃ S', Lv w wj S' g d ∧ (∀ k, S' k → S k ∨ wi.heap.size ≤ k) ∧ Keep wi.heap.size S wi wj ∧ Below w.heap.size w wj
section
variable {w wi wj : World} {S S2 : Nat → Prop} {g g2 : Nat} {d d2 : Dv}
theorem Lv.below (h : Lv w wi S g d) (hb : Below wi.heap.size wi wj) : Lv w wj S g d := ⟨h.o.below hb, h.lo⟩
theorem Lv.keep {T : Nat → Prop} (h : Lv w wi S g d) (hk : Keep wi.heap.size T wi wj) (hST : ∀ k, S k → ¬ T k) : Lv w wj S g d := ⟨h.o.keep hk hST, h.lo⟩
theorem Lv.post (h : Lv w wi S g d) (hb : Below w.heap.size w wi) (hp : DvPost wi S g d2 wj) : LvPost w wi S g d2 wj := by
  obtain ⟨S', h1, h2, h3⟩ := hp
  refine ⟨S', ⟨h1, fun j e => ?_⟩, h2, h3, Keep.belowS hb h3 h.lo⟩
  rcases h2 j e with e | e
  · exact h.lo j e
  · exact Nat.le_trans hb.size e
/-- two devices keep apart -/
theorem apart_grow {S S' T : Nat → Prop} {n : Nat} (h : ∀ k, T k → ¬ S k) (hT : ∀ k, T k → k < n) (hS : ∀ k, S' k → S k ∨ n ≤ k) : ∀ k, T k → ¬ S' k := by
  intro k hk hs
  rcases hS k hs with e | e
  · exact h k hk e
  · have := hT k hk; omega
end

theorem newL (n m : Nat) (h1 : 1 ≤ n) (h2 : n ≤ 512) (h3 : 1 ≤ m) (h4 : m ≤ 512) (w wi : World) (hb : Below w.heap.size w wi) :
    Calls Try.prog 10 #[.int .i64 n, .int .i64 m] wi fun e wj => ∃ g S, e = .returned (.pointer (some ⟨g, 0, none⟩)) ∧ Lv w wj S g (Dv.new n m) ∧ (∀ k, S k → wi.heap.size ≤ k) ∧ Below wi.heap.size wi wj := by
  refine (newO n m h1 h2 h3 h4 wi).mono ?_
  rintro e wj ⟨g, S, rfl, hd, hS, hk⟩
  exact ⟨g, S, rfl, ⟨hd, fun j e => Nat.le_trans hb.size (hS j e)⟩, hS, hk⟩
theorem copyL (S : Nat → Prop) (g : Nat) (d : Dv) (hn : d.ws.length ≤ 100000) (w wi : World) (hb : Below w.heap.size w wi) (h : Lv w wi S g d) :
    Calls Try.prog 22 #[.pointer (some ⟨g, 0, none⟩)] wi fun e wj => ∃ g' S', e = .returned (.pointer (some ⟨g', 0, none⟩)) ∧ Lv w wj S' g' d ∧ (∀ k, S' k → wi.heap.size ≤ k) ∧ Below wi.heap.size wi wj := by
  refine (copyO S g d hn wi h.o).mono ?_
  rintro e wj ⟨g', S', rfl, hd, hS, hk⟩
  exact ⟨g', S', rfl, ⟨hd, fun j e => Nat.le_trans hb.size (hS j e)⟩, hS, hk⟩
theorem writeL {e0 : Int} (S : Nat → Prop) (g : Nat) (d : Dv) (l : Lc) (s : List UInt8) (he : mayE d l s = e0) (hn : d.ws.length ≤ 100000) (w wi : World) (hb : Below w.heap.size w wi) (h : Lv w wi S g d) :
    Calls Try.prog 20 #[.pointer (some ⟨g, 0, none⟩), .agg #[.int .i64 l.dev, .int .i64 l.pos], .string (bstr s)] wi fun e wj => e = .returned (.int .i64 e0) ∧ LvPost w wi S g (d.write l s) wj := by
  subst he
  exact (writeO S g d l s hn wi h.o).mono fun e wj ⟨h1, h2⟩ => ⟨h1, h.post hb h2⟩
theorem spoilL {e0 : Int} (S : Nat → Prop) (g : Nat) (d : Dv) (l : Lc) (s : List UInt8) (he : mayE d l s = e0) (hn : d.ws.length ≤ 100000) (w wi : World) (hb : Below w.heap.size w wi) (h : Lv w wi S g d) :
    Calls Try.prog 25 #[.pointer (some ⟨g, 0, none⟩), .agg #[.int .i64 l.dev, .int .i64 l.pos], .string (bstr s)] wi fun e wj => e = .returned (.int .i64 e0) ∧ LvPost w wi S g (d.spoilAt l s) wj := by
  subst he
  exact (spoilO S g d l s hn wi h.o).mono fun e wj ⟨h1, h2⟩ => ⟨h1, h.post hb h2⟩
theorem flushL (S : Nat → Prop) (g : Nat) (d : Dv) (hn : d.ws.length ≤ 100000) (w wi : World) (hb : Below w.heap.size w wi) (h : Lv w wi S g d) :
    Calls Try.prog 21 #[.pointer (some ⟨g, 0, none⟩)] wi fun e wj => e = .returned (.int .i64 0) ∧ LvPost w wi S g d.flush wj :=
  (flushO S g d hn wi h.o).mono fun e wj ⟨h1, h2⟩ => ⟨h1, h.post hb h2⟩
theorem crashL (S : Nat → Prop) (g : Nat) (d : Dv) (A : Option Addr) (n c : Nat) (kl : List Bool) (hkl : n = kl.length) (hn : d.ws.length ≤ 100000) (w wi : World) (hk : BoolsAt (fun k => ¬ S k) wi A kl) (hb : Below w.heap.size w wi) (h : Lv w wi S g d) :
    Calls Try.prog 23 #[.pointer (some ⟨g, 0, none⟩), .slice A n c] wi fun e wj => e = .returned (.int .i64 0) ∧ LvPost w wi S g (d.crash kl) wj := by
  subst hkl
  exact (crashO S g d A c kl hn wi h.o hk).mono fun e wj ⟨h1, h2⟩ => ⟨h1, h.post hb h2⟩
theorem loseL {e0 : Int} (S : Nat → Prop) (g : Nat) (d : Dv) (dev : Int) (he : (if isB dev then (0 : Int) else 1) = e0) (hn : d.ws.length ≤ 100000) (w wi : World) (hb : Below w.heap.size w wi) (h : Lv w wi S g d) :
    Calls Try.prog 24 #[.pointer (some ⟨g, 0, none⟩), .int .i64 dev] wi fun e wj => e = .returned (.int .i64 e0) ∧ LvPost w wi S g (d.lose dev) wj := by
  subst he
  exact (loseO S g d dev hn wi h.o).mono fun e wj ⟨h1, h2⟩ => ⟨h1, h.post hb h2⟩
theorem readL {r : List UInt8} {e0 : Int} (S : Nat → Prop) (g : Nat) (d : Dv) (l : Lc) (he : d.read l = (r, e0)) (hn : d.ws.length ≤ 100000) (w wi : World) (h : Lv w wi S g d) :
    Calls Try.prog 16 #[.pointer (some ⟨g, 0, none⟩), .agg #[.int .i64 l.dev, .int .i64 l.pos]] wi fun e wj => e = .returned (.tuple #[.string (bstr r), .int .i64 e0]) ∧ Below wi.heap.size wi wj := by
  have := readO S g d l hn wi h.o
  rw [he] at this
  exact this
theorem sizeL {n0 : Int} (S : Nat → Prop) (g : Nat) (d : Dv) (dev : Int) (he : (if isB dev then ((d.sec dev).length : Int) else 0) = n0) (w wi : World) (h : Lv w wi S g d) :
    Calls Try.prog 18 #[.pointer (some ⟨g, 0, none⟩), .int .i64 dev] wi fun e wj => e = .returned (.int .i64 n0) ∧ wi = wj := by
  subst he
  refine (sizeO S g d dev wi h.o).mono ?_
  rintro e wj ⟨rfl, rfl⟩
  exact ⟨by cases isB dev <;> rfl, rfl⟩
theorem lostL {b0 : Bool} (S : Nat → Prop) (g : Nat) (d : Dv) (dev : Int) (he : (isB dev && d.gone dev) = b0) (w wi : World) (h : Lv w wi S g d) :
    Calls Try.prog 19 #[.pointer (some ⟨g, 0, none⟩), .int .i64 dev] wi fun e wj => e = .returned (.bool b0) ∧ wi = wj := by
  subst he
  exact lostO S g d dev wi h.o
theorem waitsL (S : Nat → Prop) (g : Nat) (d : Dv) (hn : d.ws.length ≤ 100000) (w wi : World) (h : Lv w wi S g d) :
    Calls Try.prog 14 #[.pointer (some ⟨g, 0, none⟩)] wi fun e wj => ∃ u, e = .returned u ∧ wj.ownsRow wi.heap.size 29 2 u d.ws.length (lcsV (d.ws.map Wr.loc)) ∧ Below wi.heap.size wi wj := waitsO S g d hn wi h.o
theorem waitsL0 (S : Nat → Prop) (g : Nat) (d : Dv) (hn : d.ws = []) (w wi : World) (h : Lv w wi S g d) :
    Calls Try.prog 14 #[.pointer (some ⟨g, 0, none⟩)] wi fun e wj => (∃ A c, e = .returned (.slice A 0 c)) ∧ Below wi.heap.size wi wj := by
  refine (waitsO S g d (by rw [hn]; simp) wi h.o).mono ?_
  rintro e wj ⟨u, rfl, ho, hb⟩
  rw [hn] at ho
  rcases ho.2 with ⟨rfl, _⟩ | ⟨g', cap, cur, rfl, _⟩
  · exact ⟨⟨_, _, rfl⟩, hb⟩
  · exact ⟨⟨_, _, rfl⟩, hb⟩

/-! live -/
def lvA : Dv := (Dv.new 4 2).write ⟨0, 3⟩ [120]
def lvB : Dv := lvA.flush
def lvC : Dv := lvB.write ⟨0, 3⟩ [121]
def lvC2 : Dv := lvC.write ⟨1, 2⟩ [122]
def lvD : Dv := lvC2.crash []
def lvE : Dv := lvC2.crash [true]
def lvF : Dv := lvD.lose 1
def lvG : Dv := lvF.spoilAt ⟨0, 1⟩ [33]

set_option maxRecDepth 100000 in
set_option maxHeartbeats 4000000 in
theorem live_ok (w : World) : Calls Try.prog 9 #[] w fun e w' => e = .returned (.bool true) ∧ Below w.heap.size w w' := by
  go_enter Try.func9, Try.ntmps9
  go_wp2_with fail
  refine (newL 4 2 (by decide) (by decide) (by decide) (by decide) w w (Below.refl _ _)).mono ?_
  rintro e w1 ⟨g, S0, rfl, h0, hS0, k0⟩
  have b0 := k0
  go_wp2_with fail
  refine (writeL (e0 := 0) S0 g (Dv.new 4 2) ⟨0, 3⟩ [120] rfl (by decide) w w1 b0 h0).mono ?_
  rintro e w2 ⟨rfl, S1, h1, hS1, k1, b1⟩
  change Lv w w2 S1 g lvA at h1
  go_wp2_with fail
  refine (flushL S1 g lvA (by decide) w w2 b1 h1).mono ?_
  rintro e w3 ⟨rfl, S2, h2, hS2, k2, b2⟩
  change Lv w w3 S2 g lvB at h2
  go_wp2_with fail
  refine (writeL (e0 := 0) S2 g lvB ⟨0, 3⟩ [121] rfl (by decide) w w3 b2 h2).mono ?_
  rintro e w4 ⟨rfl, S3, h3, hS3, k3, b3⟩
  change Lv w w4 S3 g lvC at h3
  go_wp2_with fail
  refine (writeL (e0 := 1) S3 g lvC ⟨1, 2⟩ [122] rfl (by decide) w w4 b3 h3).mono ?_
  rintro e w5 ⟨rfl, S4, h4, hS4, k4, b4⟩
  change Lv w w5 S4 g lvC2 at h4
  go_wp2_with fail
  refine (readL (r := [121]) (e0 := 0) S4 g lvC2 ⟨0, 3⟩ rfl (by decide) w w5 h4).mono ?_
  rintro e w6 ⟨rfl, k5⟩
  have b5 := b4.trans (k5.mono b4.size)
  have h5 := h4.below k5
  go_wp2_with fail
  refine (copyL S4 g lvC2 (by decide) w w6 b5 h5).mono ?_
  rintro e w7 ⟨gk, T0, rfl, t0, hT0, k6⟩
  have b6 := b5.trans (k6.mono b5.size)
  have ap0 : ∀ k, T0 k → ¬ S4 k := fun k e e2 => by have := hT0 k e; have := h5.o.lt k e2; omega
  have h6 := h5.below k6
  go_wp2_with fail
  refine (crashL S4 g lvC2 none 0 0 [] rfl (by decide) w w7 (fun i h => absurd h (by simp)) b6 h6).mono ?_
  rintro e w8 ⟨rfl, S5, h7, hS5, k7, b7⟩
  change Lv w w8 S5 g lvD at h7
  have t1 := t0.keep k7 ap0
  have ap1 := apart_grow ap0 t0.o.lt hS5
  go_wp2_with fail
  refine (readL (r := [120]) (e0 := 0) S5 g lvD ⟨0, 3⟩ rfl (by decide) w w8 h7).mono ?_
  rintro e w9 ⟨rfl, k8⟩
  have b8 := b7.trans (k8.mono b7.size)
  have h8 := h7.below k8
  have t2 := t1.below k8
  go_wp2_with fail
  obtain ⟨G, hG⟩ : ∃ g, w9.heap.size = g := ⟨_, rfl⟩
  obtain ⟨v1, hv1⟩ : ∃ x, w9.alloc (.cells #[.bool true] 4) = x := ⟨_, rfl⟩
  have kv : Below w9.heap.size w9 v1 := by rw [← hv1]; exact (Below.refl _ _).alloc (Nat.le_refl _) _
  have hbo : Blk v1 G 4 #[.bool true] := by rw [← hv1, ← hG]; exact Blk.new _ _ _
  rw [hv1]
  try rw [hG]
  have bv := b8.trans (kv.mono b8.size)
  have hv := h8.below kv
  have t3 := t2.below kv
  have hGT : ¬ T0 G := fun e => by have := t2.o.lt G e; omega
  have hbools : BoolsAt (fun k => ¬ T0 k) v1 (some ⟨G, 0, none⟩) [true] := by
    intro i hi
    have : i = 0 := by simp at hi; exact hi
    subst this
    exact ⟨_, rfl, hbo.lt, hGT, by have := hbo.cell 0; simpa [Addr.add] using this⟩
  refine (crashL T0 gk lvC2 (some ⟨G, 0, none⟩) 1 1 [true] rfl (by decide) w v1 hbools bv t3).mono ?_
  rintro e w10 ⟨rfl, T1, t4, hT1, k9, b9⟩
  change Lv w w10 T1 gk lvE at t4
  have h9 := hv.keep k9 (fun k e e2 => ap1 k e2 e)
  go_wp2_with fail
  refine (readL (r := [121]) (e0 := 0) T1 gk lvE ⟨0, 3⟩ rfl (by decide) w w10 t4).mono ?_
  rintro e w11 ⟨rfl, k10⟩
  have b10 := b9.trans (k10.mono b9.size)
  have h10 := h9.below k10
  go_wp2_with fail
  refine (loseL (e0 := 0) S5 g lvD 1 rfl (by decide) w w11 b10 h10).mono ?_
  rintro e w12 ⟨rfl, S11, h11, hS11, k11, b11⟩
  change Lv w w12 S11 g lvF at h11
  go_wp2_with fail
  refine (readL (r := []) (e0 := 5) S11 g lvF ⟨1, 0⟩ rfl (by decide) w w12 h11).mono ?_
  rintro e w13 ⟨rfl, k12⟩
  have b12 := b11.trans (k12.mono b11.size)
  have h12 := h11.below k12
  go_wp2_with fail
  refine (spoilL (e0 := 0) S11 g lvF ⟨0, 1⟩ [33] rfl (by decide) w w13 b12 h12).mono ?_
  rintro e w14 ⟨rfl, S13, h13, hS13, k13, b13⟩
  change Lv w w14 S13 g lvG at h13
  go_wp2_with fail
  refine (lostL (b0 := true) S13 g lvG 1 rfl w w14 h13).mono ?_
  rintro e _ ⟨rfl, rfl⟩
  go_wp2_with fail
  refine (lostL (b0 := false) S13 g lvG 0 rfl w w14 h13).mono ?_
  rintro e _ ⟨rfl, rfl⟩
  go_wp2_with fail
  refine (sizeL (n0 := 4) S13 g lvG 0 rfl w w14 h13).mono ?_
  rintro e _ ⟨rfl, rfl⟩
  go_wp2_with fail
  refine (sizeL (n0 := 0) S13 g lvG 2 rfl w w14 h13).mono ?_
  rintro e _ ⟨rfl, rfl⟩
  go_wp2_with fail
  refine (waitsL0 S13 g lvG rfl w w14 h13).mono ?_
  rintro e w15 ⟨⟨A, c, rfl⟩, k14⟩
  have b14 := b13.trans (k14.mono b13.size)
  go_wp2_with fail
  refine (new_bad 0 1 (.inl (by decide)) w15).mono ?_
  rintro e _ ⟨rfl, rfl⟩
  go_wp2
  go_ret
  exact ⟨rfl, b14⟩

end Go.Proofs.Ytmlakbdigbpmaaa
