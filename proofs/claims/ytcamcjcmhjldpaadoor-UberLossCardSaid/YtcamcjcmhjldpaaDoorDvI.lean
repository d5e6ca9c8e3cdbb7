/- Package dev: what its functions do, in one form: devices with the blocks that are theirs. -/
import Derived.Test.YtcamcjcmhjldpaaDoorDvH
namespace Go.Proofs.YtcamcjcmhjldpaaDoor
open Go.RowKit
set_option linter.unusedSimpArgs false
set_option linter.unnecessarySimpa false
set_option linter.unusedVariables false

/-- what holds of all devices: sectors there, every write that waits has its place -/
structure Dv.ok (d : Dv) : Prop where
  p0 : 0 < d.s0.length
  p1 : 0 < d.s1.length
  m0 : d.s0.length ≤ 512
  m1 : d.s1.length ≤ 512
  ws : ∀ x ∈ d.ws, d.has x.loc
def Dv.write (d : Dv) (l : Lc) (s : List UInt8) : Dv := if mayE d l s = 0 then { d with ws := d.ws ++ [⟨l, s⟩] } else d
def Dv.lose (d : Dv) (dev : Int) : Dv := if dev = 0 then { d with s0 := List.replicate d.s0.length [], l0 := true, ws := d.ws.filter (fun x => !(x.loc.dev == 0)) } else if dev = 1 then { d with s1 := List.replicate d.s1.length [], l1 := true, ws := d.ws.filter (fun x => !(x.loc.dev == 1)) } else d
def Dv.spoilAt (d : Dv) (l : Lc) (s : List UInt8) : Dv := if mayE d l s = 0 then d.spoil ⟨l, s⟩ else d
theorem Dv.has_congr {d e : Dv} (h0 : e.s0.length = d.s0.length) (h1 : e.s1.length = d.s1.length) (l : Lc) : e.has l ↔ d.has l := by
  unfold Dv.has Dv.sec
  by_cases h : l.dev = 0 <;> simp [h, h0, h1]
theorem Dv.put_len (d : Dv) (x : Wr) : (d.put x).s0.length = d.s0.length ∧ (d.put x).s1.length = d.s1.length := by
  unfold Dv.put
  split <;> simp
theorem Dv.settle_len (d : Dv) (kf : Nat → Bool) : ∀ n, (d.settle kf n).s0.length = d.s0.length ∧ (d.settle kf n).s1.length = d.s1.length
  | 0 => ⟨rfl, rfl⟩
  | n + 1 => by
    have ih := Dv.settle_len d kf n
    unfold Dv.settle
    split
    · split
      · exact ⟨((d.settle kf n).put_len _).1.trans ih.1, ((d.settle kf n).put_len _).2.trans ih.2⟩
      · exact ih
    · exact ih
theorem Dv.ok.of_len {d e : Dv} (h : d.ok) (h0 : e.s0.length = d.s0.length) (h1 : e.s1.length = d.s1.length) (hw : ∀ x ∈ e.ws, d.has x.loc) : e.ok :=
  ⟨by rw [h0]; exact h.p0, by rw [h1]; exact h.p1, by rw [h0]; exact h.m0, by rw [h1]; exact h.m1, fun x hx => (Dv.has_congr h0 h1 _).2 (hw x hx)⟩
theorem Dv.ok.write {d : Dv} (h : d.ok) (l : Lc) (s : List UInt8) : (d.write l s).ok := by
  unfold Dv.write
  split
  · rename_i he
    refine h.of_len rfl rfl (fun x hx => ?_)
    rcases List.mem_append.1 hx with hx | hx
    · exact h.ws x hx
    · simp at hx; subst hx; exact may_zero he
  · exact h
theorem Dv.ok.crash {d : Dv} (h : d.ok) (kl : List Bool) : (d.crash kl).ok := h.of_len (d.settle_len _ _).1 (d.settle_len _ _).2 (fun x hx => by simp [Dv.crash] at hx)
theorem Dv.ok.flush {d : Dv} (h : d.ok) : d.flush.ok := h.of_len (d.settle_len _ _).1 (d.settle_len _ _).2 (fun x hx => by simp [Dv.flush] at hx)
theorem Dv.ok.spoilAt {d : Dv} (h : d.ok) (l : Lc) (s : List UInt8) : (d.spoilAt l s).ok := by
  unfold Dv.spoilAt
  split
  · refine h.of_len ?_ ?_ (fun x hx => ?_)
    · exact (Dv.put_len _ _).1
    · exact (Dv.put_len _ _).2
    · unfold Dv.spoil at hx
      rw [Dv.put_ws] at hx
      exact h.ws x (List.mem_filter.1 hx).1
  · exact h
theorem Dv.ok.lose {d : Dv} (h : d.ok) (dev : Int) : (d.lose dev).ok := by
  unfold Dv.lose
  split
  · exact h.of_len (by simp) rfl (fun x hx => h.ws x (List.mem_filter.1 hx).1)
  · split
    · exact h.of_len rfl (by simp) (fun x hx => h.ws x (List.mem_filter.1 hx).1)
    · exact h
theorem Dv.ok.new {n m : Nat} (h1 : 1 ≤ n) (h2 : n ≤ 512) (h3 : 1 ≤ m) (h4 : m ≤ 512) : (Dv.new n m).ok :=
  ⟨by simp [Dv.new]; omega, by simp [Dv.new]; omega, by simp [Dv.new]; omega, by simp [Dv.new]; omega, fun x hx => by simp [Dv.new] at hx⟩

/-- devices in memory, in blocks of S -/
structure DvO (w : World) (S : Nat → Prop) (g : Nat) (d : Dv) : Prop where
  at_ : ∃ b0 b1 v, DvAt w g b0 b1 v d ∧ ∀ k, dvB g b0 b1 v k → S k
  lt : ∀ k, S k → k < w.heap.size
  ok : d.ok
/-- devices behind a call -/
def DvPost (w : World) (S : Nat → Prop) (g : Nat) (d : Dv) (w' : World) : Prop := ∃ S', DvO w' S' g d ∧ (∀ k, S' k → S k ∨ w.heap.size ≤ k) ∧ Keep w.heap.size S w w'
theorem DvO.keep {w w' : World} {S T : Nat → Prop} {g : Nat} {d : Dv} (h : DvO w S g d) (hk : Keep w.heap.size T w w') (hST : ∀ k, S k → ¬ T k) : DvO w' S g d := by
  obtain ⟨⟨b0, b1, v, h1, h2⟩, h3, h4⟩ := h
  exact ⟨⟨b0, b1, v, h1.keep hk (fun k e => ⟨h3 k (h2 k e), hST k (h2 k e)⟩), h2⟩, fun k e => Nat.lt_of_lt_of_le (h3 k e) hk.size, h4⟩
theorem DvO.below {w w' : World} {S : Nat → Prop} {g : Nat} {d : Dv} (h : DvO w S g d) (hb : Below w.heap.size w w') : DvO w' S g d := h.keep (T := fun _ => False) (Keep.of_below hb) (fun _ _ x => x)
theorem DvO.post {w w' : World} {g b0 b1 b0' b1' : Nat} {v v' : Value} {S : Nat → Prop} {d : Dv} (h : ∀ k, dvB g b0 b1 v k → S k) (hd : DvAt w' g b0' b1' v' d) (ok : d.ok) (hn : ∀ k, dvB g b0' b1' v' k → S k ∨ w.heap.size ≤ k) (hk : Keep w.heap.size S w w') : DvPost w S g d w' :=
  ⟨dvB g b0' b1' v', ⟨⟨_, _, _, hd, fun _ e => e⟩, fun k e => hd.lt e, ok⟩, hn, hk⟩
theorem DvO.same {w w' : World} {S : Nat → Prop} {g : Nat} {d : Dv} (h : DvO w S g d) (hb : Below w.heap.size w w') : DvPost w S g d w' := ⟨S, h.below hb, fun _ e => .inl e, Keep.of_below hb⟩

theorem newO (n m : Nat) (h1 : 1 ≤ n) (h2 : n ≤ 512) (h3 : 1 ≤ m) (h4 : m ≤ 512) (w : World) :
    Calls Tryd.prog 16 #[.int .i64 n, .int .i64 m] w fun e w' => ∃ g S, e = .returned (.pointer (some ⟨g, 0, none⟩)) ∧ DvO w' S g (Dv.new n m) ∧ (∀ k, S k → w.heap.size ≤ k) ∧ Below w.heap.size w w' := by
  refine (new_ok n m h1 h2 h3 h4 w).mono ?_
  rintro e w' ⟨⟨g, b0, b1, rfl, hg, hb0, hb1, hd⟩, hb⟩
  refine ⟨g, dvB g b0 b1 (.slice none 0 0), rfl, ⟨⟨_, _, _, hd, fun _ e => e⟩, fun k e => hd.lt e, Dv.ok.new h1 h2 h3 h4⟩, ?_, hb⟩
  rintro k (rfl | rfl | rfl | e)
  · exact hg
  · exact hb0
  · exact hb1
  · cases e

theorem writeO (S : Nat → Prop) (g : Nat) (d : Dv) (l : Lc) (s : List UInt8) (hn : d.ws.length ≤ 100000) (w : World) (h : DvO w S g d) :
    Calls Tryd.prog 40 #[.pointer (some ⟨g, 0, none⟩), .agg #[.int .i64 l.dev, .int .i64 l.pos], .string (bstr s)] w fun e w' => e = .returned (.int .i64 (mayE d l s)) ∧ DvPost w S g (d.write l s) w' := by
  have hO := h
  obtain ⟨⟨b0, b1, v, h1, h2⟩, h3, h4⟩ := h
  by_cases he : mayE d l s = 0
  · refine (write_ok g b0 b1 v d l s (Lib.hid he) hn w h1).mono ?_
    rintro e w' ⟨⟨v', rfl, hd, hz⟩, hk⟩
    have ed : d.write l s = { d with ws := d.ws ++ [⟨l, s⟩] } := by unfold Dv.write; rw [if_pos he]
    rw [ed, he]
    refine ⟨rfl, DvO.post h2 hd (by rw [← ed]; exact h4.write l s) ?_ (hk.weak (Nat.le_refl _) (fun k e => h2 k (by rcases e with e | e; exact .inl e; exact .inr (.inr (.inr e)))))⟩
    rintro k (e | e | e | e)
    · exact .inl (h2 k (.inl e))
    · exact .inl (h2 k (.inr (.inl e)))
    · exact .inl (h2 k (.inr (.inr (.inl e))))
    · rcases hz k e with e | e
      · exact .inl (h2 k (.inr (.inr (.inr e))))
      · exact .inr e
  · refine (write_bad g b0 b1 v d l s (Lib.hid rfl) (by simpa using he) w h1).mono ?_
    rintro e w' ⟨rfl, hb⟩
    have ed : d.write l s = d := by unfold Dv.write; rw [if_neg he]
    rw [ed]
    exact ⟨rfl, hO.same hb⟩

theorem readO (S : Nat → Prop) (g : Nat) (d : Dv) (l : Lc) (hn : d.ws.length ≤ 100000) (w : World) (h : DvO w S g d) :
    Calls Tryd.prog 44 #[.pointer (some ⟨g, 0, none⟩), .agg #[.int .i64 l.dev, .int .i64 l.pos]] w fun e w' => e = .returned (.tuple #[.string (bstr (d.read l).1), .int .i64 (d.read l).2]) ∧ Below w.heap.size w w' := by
  obtain ⟨⟨b0, b1, v, h1, h2⟩, h3, h4⟩ := h
  exact dread_any g b0 b1 v d l hn w h1

theorem flushO (S : Nat → Prop) (g : Nat) (d : Dv) (hn : d.ws.length ≤ 100000) (w : World) (h : DvO w S g d) :
    Calls Tryd.prog 18 #[.pointer (some ⟨g, 0, none⟩)] w fun e w' => e = .returned (.int .i64 0) ∧ DvPost w S g d.flush w' := by
  obtain ⟨⟨b0, b1, v, h1, h2⟩, h3, h4⟩ := h
  refine (flush_any g b0 b1 v d h4.ws hn w h1).mono ?_
  rintro e w' ⟨rfl, hd, hk⟩
  refine ⟨rfl, DvO.post h2 hd h4.flush ?_ (hk.weak (Nat.le_refl _) (fun k e => h2 k (by rcases e with e | e | e; exact .inl e; exact .inr (.inl e); exact .inr (.inr (.inl e)))))⟩
  rintro k (e | e | e | e)
  · exact .inl (h2 k (.inl e))
  · exact .inl (h2 k (.inr (.inl e)))
  · exact .inl (h2 k (.inr (.inr (.inl e))))
  · cases e

/-- a slice of bools that came in, or that is none -/
def BoolsAt (T : Nat → Prop) (w : World) (A : Option Addr) (kl : List Bool) : Prop := ∀ i (h : i < kl.length), ∃ ad : Addr, A = some ad ∧ ad.block < w.heap.size ∧ T ad.block ∧ w.cell? (ad.add i) = some (.bool kl[i])
theorem crashO (S : Nat → Prop) (g : Nat) (d : Dv) (A : Option Addr) (c : Nat) (kl : List Bool) (hn : d.ws.length ≤ 100000) (w : World) (h : DvO w S g d) (hk : BoolsAt (fun k => ¬ S k) w A kl) :
    Calls Tryd.prog 19 #[.pointer (some ⟨g, 0, none⟩), .slice A kl.length c] w fun e w' => e = .returned (.int .i64 0) ∧ DvPost w S g (d.crash kl) w' := by
  obtain ⟨⟨b0, b1, v, h1, h2⟩, h3, h4⟩ := h
  refine (crash_any g b0 b1 v d A c kl h4.ws hn w h1 ?_).mono ?_
  · intro i hi
    obtain ⟨ad, e1, e2, e3, e4⟩ := hk i hi
    exact ⟨ad, e1, e2, fun e => e3 (h2 _ (.inr (.inl e))), fun e => e3 (h2 _ (.inr (.inr (.inl e)))), e4⟩
  rintro e w' ⟨rfl, hd, hk⟩
  refine ⟨rfl, DvO.post h2 hd (h4.crash kl) ?_ (hk.weak (Nat.le_refl _) (fun k e => h2 k (by rcases e with e | e | e; exact .inl e; exact .inr (.inl e); exact .inr (.inr (.inl e)))))⟩
  rintro k (e | e | e | e)
  · exact .inl (h2 k (.inl e))
  · exact .inl (h2 k (.inr (.inl e)))
  · exact .inl (h2 k (.inr (.inr (.inl e))))
  · cases e

theorem loseO (S : Nat → Prop) (g : Nat) (d : Dv) (dev : Int) (hn : d.ws.length ≤ 100000) (w : World) (h : DvO w S g d) :
    Calls Tryd.prog 22 #[.pointer (some ⟨g, 0, none⟩), .int .i64 dev] w fun e w' => e = .returned (.int .i64 (if isB dev then 0 else 1)) ∧ DvPost w S g (d.lose dev) w' := by
  have hO := h
  obtain ⟨⟨b0, b1, v, h1, h2⟩, h3, h4⟩ := h
  have fin : ∀ {v' : Value} {k : Nat}, zblock v' = zblock v → dvB g b0 b1 v' k → S k ∨ w.heap.size ≤ k := by
    rintro v' k hz (e | e | e | e)
    · exact .inl (h2 k (.inl e))
    · exact .inl (h2 k (.inr (.inl e)))
    · exact .inl (h2 k (.inr (.inr (.inl e))))
    · rw [hz] at e; exact .inl (h2 k (.inr (.inr (.inr e))))
  by_cases e0 : dev = 0
  · subst e0
    refine (lose0 g b0 b1 v d h4.p0 hn w h1).mono ?_
    rintro e w' ⟨⟨v', rfl, hd, hz⟩, hk⟩
    exact ⟨rfl, DvO.post h2 (by simpa [Dv.lose] using hd) (h4.lose 0) (fun k e => fin hz e) (hk.weak (Nat.le_refl _) h2)⟩
  · by_cases e1 : dev = 1
    · subst e1
      refine (lose1 g b0 b1 v d h4.p1 hn w h1).mono ?_
      rintro e w' ⟨⟨v', rfl, hd, hz⟩, hk⟩
      exact ⟨rfl, DvO.post h2 (by simpa [Dv.lose] using hd) (h4.lose 1) (fun k e => fin hz e) (hk.weak (Nat.le_refl _) h2)⟩
    · have hb : isB dev = false := by simp [isB, e0, e1]
      refine (lose_bad g b0 b1 v d dev (Lib.hid hb) w h1).mono ?_
      rintro e w' ⟨rfl, hk⟩
      have ed : d.lose dev = d := by unfold Dv.lose; rw [if_neg e0, if_neg e1]
      rw [ed, hb]
      exact ⟨rfl, hO.same hk⟩

theorem spoilO (S : Nat → Prop) (g : Nat) (d : Dv) (l : Lc) (s : List UInt8) (hn : d.ws.length ≤ 100000) (w : World) (h : DvO w S g d) :
    Calls Tryd.prog 21 #[.pointer (some ⟨g, 0, none⟩), .agg #[.int .i64 l.dev, .int .i64 l.pos], .string (bstr s)] w fun e w' => e = .returned (.int .i64 (mayE d l s)) ∧ DvPost w S g (d.spoilAt l s) w' := by
  have hO := h
  obtain ⟨⟨b0, b1, v, h1, h2⟩, h3, h4⟩ := h
  by_cases he : mayE d l s = 0
  · refine (spoil_ok g b0 b1 v d l s (Lib.hid he) hn w h1).mono ?_
    rintro e w' ⟨⟨v', rfl, hd, hz⟩, hk⟩
    have ed : d.spoilAt l s = d.spoil ⟨l, s⟩ := by unfold Dv.spoilAt; rw [if_pos he]
    have ok := h4.spoilAt l s
    rw [ed] at ok
    rw [ed, he]
    refine ⟨rfl, DvO.post h2 hd ok ?_ (hk.weak (Nat.le_refl _) h2)⟩
    rintro k (e | e | e | e)
    · exact .inl (h2 k (.inl e))
    · exact .inl (h2 k (.inr (.inl e)))
    · exact .inl (h2 k (.inr (.inr (.inl e))))
    · rw [hz] at e; exact .inl (h2 k (.inr (.inr (.inr e))))
  · refine (spoil_bad g b0 b1 v d l s (Lib.hid rfl) (by simpa using he) w h1).mono ?_
    rintro e w' ⟨rfl, hb⟩
    have ed : d.spoilAt l s = d := by unfold Dv.spoilAt; rw [if_neg he]
    rw [ed]
    exact ⟨rfl, hO.same hb⟩


end Go.Proofs.YtcamcjcmhjldpaaDoor
