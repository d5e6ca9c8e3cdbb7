/- The reference's devices: its contracts as the walks of laws use them. -/
import Derived.Test.YtmlakbdigbpmaaaRv7
namespace Go.Proofs.Ytmlakbdigbpmaaa
open Go.RowKit
set_option linter.unusedSimpArgs false
set_option linter.unnecessarySimpa false
set_option linter.unusedVariables false

theorem rnew_bad (n m : Int) (h : n < 1 ∨ m < 1 ∨ 512 < n ∨ 512 < m) (w : World) :
    Calls Try.prog 11 #[.int .i64 n, .int .i64 m] w fun e w' => e = .returned (.pointer none) ∧ w = w' := by
  have H := Lib.hid h
  clear h
  by_cases t1 : n < 1
  · have q1 : decide (n < 1) = true := decide_eq_true t1
    go_enter Try.func11, Try.ntmps11
    go_wp2
    go_ret
    exact ⟨rfl, rfl⟩
  · have q1 : decide (n < 1) = false := decide_eq_false t1
    by_cases t2 : 512 < n
    · have q2 : decide (512 < n) = true := decide_eq_true t2
      go_enter Try.func11, Try.ntmps11
      go_wp2
      go_ret
      exact ⟨rfl, rfl⟩
    · have q2 : decide (512 < n) = false := decide_eq_false t2
      by_cases t3 : m < 1
      · have q3 : decide (m < 1) = true := decide_eq_true t3
        go_enter Try.func11, Try.ntmps11
        go_wp2
        go_ret
        exact ⟨rfl, rfl⟩
      · have q3 : decide (m < 1) = false := decide_eq_false t3
        have t4 : 512 < m := by have := H.out; omega
        have q4 : decide (512 < m) = true := decide_eq_true t4
        go_enter Try.func11, Try.ntmps11
        go_wp2
        go_ret
        exact ⟨rfl, rfl⟩

/-- the reference's devices that a walk has made: all their blocks are S, new since w -/
structure Rl (w wi : World) (S : Nat → Prop) (g : Nat) (d : Dv) : Prop where
  at_ : ∃ sb gb b0 b1 v, RvAt wi g sb gb b0 b1 v d ∧ ∀ k, rvB g sb gb b0 b1 v k → S k
  lt : ∀ k, S k → k < wi.heap.size
  ok : d.ok
  lo : ∀ j, S j → w.heap.size ≤ j
def RlPost (w wi : World) (S : Nat → Prop) (g : Nat) (d : Dv) (wj : World) : Prop := ∃ S', Rl w wj S' g d ∧ (∀ k, S' k → S k ∨ wi.heap.size ≤ k) ∧ Keep wi.heap.size S wi wj ∧ Below w.heap.size w wj
section
variable {w wi wj : World} {S : Nat → Prop} {g : Nat} {d : Dv}
theorem Rl.keep {T : Nat → Prop} (h : Rl w wi S g d) (hk : Keep wi.heap.size T wi wj) (hST : ∀ k, S k → ¬ T k) : Rl w wj S g d := by
  obtain ⟨⟨sb, gb, b0, b1, v, h1, h2⟩, h3, h4, h5⟩ := h
  exact ⟨⟨sb, gb, b0, b1, v, h1.keep hk (fun k e => ⟨h3 k (h2 k e), hST k (h2 k e)⟩), h2⟩, fun k e => Nat.lt_of_lt_of_le (h3 k e) hk.size, h4, h5⟩
theorem Rl.below (h : Rl w wi S g d) (hb : Below wi.heap.size wi wj) : Rl w wj S g d := h.keep (T := fun _ => False) (Keep.of_below hb) (fun _ _ x => x)
theorem Rl.same (h : Rl w wi S g d) (hb : Below wi.heap.size wi wj) (hw : Below w.heap.size w wi) : RlPost w wi S g d wj :=
  ⟨S, h.below hb, fun _ e => .inl e, Keep.of_below hb, hw.trans (hb.mono hw.size)⟩
theorem Rl.post {sb gb b0 b1 : Nat} {v : Value} {d' : Dv} (h : Rl w wi S g d) (hw : Below w.heap.size w wi) (hd : RvAt wj g sb gb b0 b1 v d') (ok : d'.ok) (hn : ∀ k, rvB g sb gb b0 b1 v k → S k ∨ wi.heap.size ≤ k) (hk : Keep wi.heap.size S wi wj) : RlPost w wi S g d' wj := by
  refine ⟨rvB g sb gb b0 b1 v, ⟨⟨_, _, _, _, _, hd, fun _ e => e⟩, fun k e => hd.lt e, ok, fun j e => ?_⟩, hn, hk, Keep.belowS hw hk h.lo⟩
  rcases hn j e with e | e
  · exact h.lo j e
  · exact Nat.le_trans hw.size e
end

theorem rnewL (n m : Nat) (h1 : 1 ≤ n) (h2 : n ≤ 512) (h3 : 1 ≤ m) (h4 : m ≤ 512) (w wi : World) (hb : Below w.heap.size w wi) :
    Calls Try.prog 11 #[.int .i64 n, .int .i64 m] wi fun e wj => ∃ g S, e = .returned (.pointer (some ⟨g, 0, none⟩)) ∧ Rl w wj S g (Dv.new n m) ∧ (∀ k, S k → wi.heap.size ≤ k) ∧ Below wi.heap.size wi wj := by
  refine (rnew_ok n m h1 h2 h3 h4 wi).mono ?_
  rintro e wj ⟨⟨g, sb, gb, b0, b1, rfl, ⟨e1, e2, e3, e4, e5⟩, hd⟩, hk⟩
  have hS : ∀ k, rvB g sb gb b0 b1 (.slice none 0 0) k → wi.heap.size ≤ k := by
    rintro k (rfl | rfl | rfl | rfl | rfl | e)
    · exact e1
    · exact e2
    · exact e3
    · exact e4
    · exact e5
    · cases e
  exact ⟨g, rvB g sb gb b0 b1 (.slice none 0 0), rfl, ⟨⟨_, _, _, _, _, hd, fun _ e => e⟩, fun k e => hd.lt e, Dv.ok.new h1 h2 h3 h4, fun j e => Nat.le_trans hb.size (hS j e)⟩, hS, hk⟩

theorem rwriteL {e0 : Int} (S : Nat → Prop) (g : Nat) (d : Dv) (l : Lc) (s : List UInt8) (hm : mayE d l s = e0) (hn : d.ws.length ≤ 100000) (w wi : World) (hb : Below w.heap.size w wi) (h : Rl w wi S g d) :
    Calls Try.prog 26 #[.pointer (some ⟨g, 0, none⟩), .agg #[.int .i64 l.dev, .int .i64 l.pos], .string (bstr s)] wi fun e wj => e = .returned (.int .i64 e0) ∧ RlPost w wi S g (d.write l s) wj := by
  subst hm
  have hO := h
  obtain ⟨⟨sb, gb, b0, b1, v, h1, h2⟩, h3, h4, h5⟩ := h
  by_cases he : mayE d l s = 0
  · refine (rwrite_ok g sb gb b0 b1 v d l s (Lib.hid he) hn wi h1).mono ?_
    rintro e wj ⟨⟨v', rfl, hd, hz⟩, hk⟩
    have ed : d.write l s = { d with ws := d.ws ++ [⟨l, s⟩] } := by unfold Dv.write; rw [if_pos he]
    rw [ed, he]
    refine ⟨rfl, hO.post hb hd (by rw [← ed]; exact h4.write l s) ?_ (hk.weak (Nat.le_refl _) (fun k e => h2 k (by rcases e with e | e; exact .inl e; exact .inr (.inr (.inr (.inr (.inr e)))))))⟩
    rintro k (e | e | e | e | e | e)
    · exact .inl (h2 k (.inl e))
    · exact .inl (h2 k (.inr (.inl e)))
    · exact .inl (h2 k (.inr (.inr (.inl e))))
    · exact .inl (h2 k (.inr (.inr (.inr (.inl e)))))
    · exact .inl (h2 k (.inr (.inr (.inr (.inr (.inl e))))))
    · rcases hz k e with e | e
      · exact .inl (h2 k (.inr (.inr (.inr (.inr (.inr e))))))
      · exact .inr e
  · refine (rwrite_bad g sb gb b0 b1 v d l s (Lib.hid rfl) (by simpa using he) wi h1).mono ?_
    rintro e wj ⟨rfl, hk⟩
    have ed : d.write l s = d := by unfold Dv.write; rw [if_neg he]
    rw [ed]
    exact ⟨rfl, hO.same hk hb⟩

theorem rreadL {r : List UInt8} {e0 : Int} (S : Nat → Prop) (g : Nat) (d : Dv) (l : Lc) (he : d.read l = (r, e0)) (hn : d.ws.length ≤ 100000) (w wi : World) (h : Rl w wi S g d) :
    Calls Try.prog 17 #[.pointer (some ⟨g, 0, none⟩), .agg #[.int .i64 l.dev, .int .i64 l.pos]] wi fun e wj => e = .returned (.tuple #[.string (bstr r), .int .i64 e0]) ∧ Below wi.heap.size wi wj := by
  obtain ⟨⟨sb, gb, b0, b1, v, h1, h2⟩, h3, h4, h5⟩ := h
  have := rread_any g sb gb b0 b1 v d l hn wi h1
  rw [he] at this
  exact this
theorem rwaitsL (S : Nat → Prop) (g : Nat) (d : Dv) (hn : d.ws.length ≤ 100000) (w wi : World) (h : Rl w wi S g d) :
    Calls Try.prog 15 #[.pointer (some ⟨g, 0, none⟩)] wi fun e wj => ∃ u, e = .returned u ∧ wj.ownsRow wi.heap.size 29 2 u d.ws.length (lcsV (d.ws.map Wr.loc)) ∧ Below wi.heap.size wi wj := by
  obtain ⟨⟨sb, gb, b0, b1, v, h1, h2⟩, h3, h4, h5⟩ := h
  exact rwaits_any g sb gb b0 b1 v d hn wi h1

theorem rv_three {S : Nat → Prop} {g sb gb b0 b1 k n : Nat} {v : Value} (h2 : ∀ k, rvB g sb gb b0 b1 v k → S k) (h : rvB g sb gb b0 b1 (.slice none 0 0) k) : S k ∨ n ≤ k := by
  rcases h with e | e | e | e | e | e
  · exact .inl (h2 k (.inl e))
  · exact .inl (h2 k (.inr (.inl e)))
  · exact .inl (h2 k (.inr (.inr (.inl e))))
  · exact .inl (h2 k (.inr (.inr (.inr (.inl e)))))
  · exact .inl (h2 k (.inr (.inr (.inr (.inr (.inl e))))))
  · cases e
theorem rflushL (S : Nat → Prop) (g : Nat) (d : Dv) (hn : d.ws.length ≤ 100000) (w wi : World) (hb : Below w.heap.size w wi) (h : Rl w wi S g d) :
    Calls Try.prog 27 #[.pointer (some ⟨g, 0, none⟩)] wi fun e wj => e = .returned (.int .i64 0) ∧ RlPost w wi S g d.flush wj := by
  have hO := h
  obtain ⟨⟨sb, gb, b0, b1, v, h1, h2⟩, h3, h4, h5⟩ := h
  refine (rflush_any g sb gb b0 b1 v d h4 hn wi h1).mono ?_
  rintro e wj ⟨rfl, hd, hk⟩
  exact ⟨rfl, hO.post hb hd h4.flush (fun k e => rv_three h2 e) (hk.weak (Nat.le_refl _) (fun k e => h2 k (by rcases e with e | e | e; exact .inl e; exact .inr (.inr (.inr (.inl e))); exact .inr (.inr (.inr (.inr (.inl e)))))))⟩
theorem rcrashL (S : Nat → Prop) (g : Nat) (d : Dv) (A : Option Addr) (n c : Nat) (kl : List Bool) (hkl : n = kl.length) (hn : d.ws.length ≤ 100000) (w wi : World) (hk : BoolsAt (fun k => ¬ S k) wi A kl) (hb : Below w.heap.size w wi) (h : Rl w wi S g d) :
    Calls Try.prog 28 #[.pointer (some ⟨g, 0, none⟩), .slice A n c] wi fun e wj => e = .returned (.int .i64 0) ∧ RlPost w wi S g (d.crash kl) wj := by
  subst hkl
  have hO := h
  obtain ⟨⟨sb, gb, b0, b1, v, h1, h2⟩, h3, h4, h5⟩ := h
  refine (rcrash_any g sb gb b0 b1 v d A c kl h4 hn wi h1 ?_).mono ?_
  · intro i hi
    obtain ⟨ad, e1, e2, e3, e4⟩ := hk i hi
    exact ⟨ad, e1, e2, ⟨fun e => e3 (h2 _ (.inr (.inr (.inr (.inl e))))), fun e => e3 (h2 _ (.inr (.inr (.inr (.inr (.inl e))))))⟩, e4⟩
  rintro e wj ⟨rfl, hd, hk⟩
  exact ⟨rfl, hO.post hb hd (h4.crash kl) (fun k e => rv_three h2 e) (hk.weak (Nat.le_refl _) (fun k e => h2 k (by rcases e with e | e | e; exact .inl e; exact .inr (.inr (.inr (.inl e))); exact .inr (.inr (.inr (.inr (.inl e)))))))⟩
theorem rloseL {e0 : Int} (S : Nat → Prop) (g : Nat) (d : Dv) (dev : Int) (he : (if isB dev then (0 : Int) else 1) = e0) (hn : d.ws.length ≤ 100000) (w wi : World) (hb : Below w.heap.size w wi) (h : Rl w wi S g d) :
    Calls Try.prog 30 #[.pointer (some ⟨g, 0, none⟩), .int .i64 dev] wi fun e wj => e = .returned (.int .i64 e0) ∧ RlPost w wi S g (d.lose dev) wj := by
  subst he
  have hO := h
  obtain ⟨⟨sb, gb, b0, b1, v, h1, h2⟩, h3, h4, h5⟩ := h
  by_cases e0 : dev = 0
  · subst e0
    refine (rlose0 g sb gb b0 b1 v d h4 hn wi h1).mono ?_
    rintro e wj ⟨rfl, ⟨b', v', hd, hb', hz⟩, hk⟩
    refine ⟨rfl, hO.post hb hd (h4.lose 0) ?_ (hk.weak (Nat.le_refl _) (fun k e => h2 k (by rcases e with e | e | e; exact .inl e; exact .inr (.inl e); exact .inr (.inr (.inl e)))))⟩
    rintro k (e | e | e | e | e | e)
    · exact .inl (h2 k (.inl e))
    · exact .inl (h2 k (.inr (.inl e)))
    · exact .inl (h2 k (.inr (.inr (.inl e))))
    · exact .inr (by rw [e]; exact hb')
    · exact .inl (h2 k (.inr (.inr (.inr (.inr (.inl e))))))
    · exact .inr (hz k e)
  · by_cases e1 : dev = 1
    · subst e1
      refine (rlose1 g sb gb b0 b1 v d h4 hn wi h1).mono ?_
      rintro e wj ⟨rfl, ⟨b', v', hd, hb', hz⟩, hk⟩
      refine ⟨rfl, hO.post hb hd (h4.lose 1) ?_ (hk.weak (Nat.le_refl _) (fun k e => h2 k (by rcases e with e | e | e; exact .inl e; exact .inr (.inl e); exact .inr (.inr (.inl e)))))⟩
      rintro k (e | e | e | e | e | e)
      · exact .inl (h2 k (.inl e))
      · exact .inl (h2 k (.inr (.inl e)))
      · exact .inl (h2 k (.inr (.inr (.inl e))))
      · exact .inl (h2 k (.inr (.inr (.inr (.inl e)))))
      · exact .inr (by rw [e]; exact hb')
      · exact .inr (hz k e)
    · have hbb : isB dev = false := by simp [isB, e0, e1]
      refine (rlose_bad g dev (Lib.hid e0) (Lib.hid e1) wi).mono ?_
      rintro e _ ⟨rfl, rfl⟩
      have ed : d.lose dev = d := by unfold Dv.lose; rw [if_neg e0, if_neg e1]
      rw [ed, hbb]
      exact ⟨rfl, hO.same (Below.refl _ _) hb⟩
theorem rspoilL {e0 : Int} (S : Nat → Prop) (g : Nat) (d : Dv) (l : Lc) (s : List UInt8) (hm : mayE d l s = e0) (hn : d.ws.length ≤ 100000) (w wi : World) (hb : Below w.heap.size w wi) (h : Rl w wi S g d) :
    Calls Try.prog 29 #[.pointer (some ⟨g, 0, none⟩), .agg #[.int .i64 l.dev, .int .i64 l.pos], .string (bstr s)] wi fun e wj => e = .returned (.int .i64 e0) ∧ RlPost w wi S g (d.spoilAt l s) wj := by
  subst hm
  have hO := h
  obtain ⟨⟨sb, gb, b0, b1, v, h1, h2⟩, h3, h4, h5⟩ := h
  by_cases he : mayE d l s = 0
  · have ed : d.spoilAt l s = d.spoil ⟨l, s⟩ := by unfold Dv.spoilAt; rw [if_pos he]
    have ok := h4.spoilAt l s
    rw [ed] at ok
    rw [ed, he]
    have fin : ∀ {wj : World} {v' : Value}, RvAt wj g sb gb b0 b1 v' (d.spoil ⟨l, s⟩) → (∀ k, zblock v' = some k → wi.heap.size ≤ k) → Keep wi.heap.size (fun k => k = g ∨ k = b0 ∨ k = b1) wi wj → RlPost w wi S g (d.spoil ⟨l, s⟩) wj := by
      intro wj v' hd hz hk
      refine hO.post hb hd ok ?_ (hk.weak (Nat.le_refl _) (fun k e => h2 k (by rcases e with e | e | e; exact .inl e; exact .inr (.inr (.inr (.inl e))); exact .inr (.inr (.inr (.inr (.inl e)))))))
      rintro k (e | e | e | e | e | e)
      · exact .inl (h2 k (.inl e))
      · exact .inl (h2 k (.inr (.inl e)))
      · exact .inl (h2 k (.inr (.inr (.inl e))))
      · exact .inl (h2 k (.inr (.inr (.inr (.inl e)))))
      · exact .inl (h2 k (.inr (.inr (.inr (.inr (.inl e))))))
      · exact .inr (hz k e)
    obtain ⟨p1, p2, p3⟩ := may_zero he
    obtain ⟨dev, pos⟩ := l
    simp only at p1 p2 p3 ⊢
    obtain ⟨k, rfl⟩ : ∃ k : Nat, pos = k := ⟨pos.toNat, by omega⟩
    have h01 : dev = 0 ∨ dev = 1 := by simpa [isB] using p1
    rcases h01 with rfl | rfl
    · refine (rspoil0 g sb gb b0 b1 v d k s (Lib.hid he) hn wi h1).mono ?_
      rintro e wj ⟨rfl, ⟨v', hd, hz⟩, hk⟩
      exact ⟨rfl, fin hd hz hk⟩
    · refine (rspoil1 g sb gb b0 b1 v d k s (Lib.hid he) hn wi h1).mono ?_
      rintro e wj ⟨rfl, ⟨v', hd, hz⟩, hk⟩
      exact ⟨rfl, fin hd hz hk⟩
  · refine (rspoil_bad g sb gb b0 b1 v d l s (Lib.hid rfl) (by simpa using he) wi h1).mono ?_
    rintro e wj ⟨rfl, hk⟩
    have ed : d.spoilAt l s = d := by unfold Dv.spoilAt; rw [if_neg he]
    rw [ed]
    exact ⟨rfl, hO.same hk hb⟩

end Go.Proofs.Ytmlakbdigbpmaaa
