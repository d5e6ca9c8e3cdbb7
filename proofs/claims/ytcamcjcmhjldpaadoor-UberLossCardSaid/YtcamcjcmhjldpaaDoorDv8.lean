/- Package dev: Crash: contracts. -/
import Derived.Test.YtcamcjcmhjldpaaDoorDv7
namespace Go.Proofs.YtcamcjcmhjldpaaDoor
open Go.RowKit
set_option linter.unusedSimpArgs false
set_option linter.unnecessarySimpa false
set_option linter.unusedVariables false

/-- the closure's variable: a slice of bools, none of it in the sectors' blocks -/
def KpAt (b0 b1 : Nat) (w : World) (kb : Nat) (l : List Bool) : Prop :=
  ∃ A c, Blk w kb 38 #[.slice A l.length c] ∧ kb ≠ b0 ∧ kb ≠ b1 ∧ ∀ i (h : i < l.length), ∃ ad : Addr, A = some ad ∧ ad.block < w.heap.size ∧ ad.block ≠ b0 ∧ ad.block ≠ b1 ∧ w.cell? (ad.add i) = some (.bool l[i])
theorem KpAt.keep {b0 b1 : Nat} {w w' : World} {kb : Nat} {l : List Bool} (h : KpAt b0 b1 w kb l) (k : Keep w.heap.size (fun k => k = b0 ∨ k = b1) w w') : KpAt b0 b1 w' kb l := by
  obtain ⟨A, c, hb, n0, n1, hc⟩ := h
  refine ⟨A, c, hb.keep k hb.lt (by rintro (e | e); exact n0 e; exact n1 e), n0, n1, fun i hi => ?_⟩
  obtain ⟨ad, rfl, h1, h2, h3, h4⟩ := hc i hi
  have e : (ad.add i).block = ad.block := by unfold Addr.add; split <;> rfl
  refine ⟨ad, rfl, Nat.lt_of_lt_of_le h1 k.size, h2, h3, ?_⟩
  rw [k.cell (by rw [e]; exact h1) (by rw [e]; rintro (e | e); exact h2 e; exact h3 e)]
  exact h4
theorem KpAt.below {b0 b1 : Nat} {w w' : World} {kb : Nat} {l : List Bool} (h : KpAt b0 b1 w kb l) (b : Below w.heap.size w w') : KpAt b0 b1 w' kb l := h.keep (Keep.of_below b)
def kpB (l : List Bool) (i : Nat) : Bool := (l[i]?).getD false

set_option maxHeartbeats 1000000 in
theorem cr1_any (b0 b1 kb : Nat) (l : List Bool) (i : Nat) (hi : i ≤ 100000) (w : World) (h : KpAt b0 b1 w kb l) :
    Calls Tryd.prog 43 #[.int .i64 i, .pointer (some ⟨kb, 0, none⟩)] w fun e w' => e = .returned (.bool (kpB l i)) ∧ w = w' := by
  obtain ⟨A, c, hb, n0, n1, hc⟩ := h
  have c0 := hb.cell 0
  simp at c0
  by_cases hlt : i < l.length
  · obtain ⟨ad, rfl, h1, h2, h3, h4⟩ := hc i hlt
    have e : kpB l i = l[i] := by simp [kpB, hlt]
    rw [e]
    have q1 : decide ((i : Int) < l.length) = true := decide_eq_true (by omega)
    go_enter Tryd.func43, Tryd.ntmps43
    go_wp2
    go_ret
    exact ⟨rfl, rfl⟩
  · have e : kpB l i = false := by simp [kpB, hlt]
    rw [e]
    have q1 : decide ((i : Int) < l.length) = false := decide_eq_false (by omega)
    go_enter Tryd.func43, Tryd.ntmps43
    go_wp2
    go_ret
    exact ⟨rfl, rfl⟩

theorem cr1_to {kl : List Bool} {i : Nat} {b : Bool} (e : kpB kl i = b) (b0 b1 kb : Nat) (hi : i ≤ 100000) (w : World) (h : KpAt b0 b1 w kb kl) :
    Calls Tryd.prog 43 #[.int .i64 i, .pointer (some ⟨kb, 0, none⟩)] w fun e w' => e = .returned (.bool b) ∧ w = w' := by subst e; exact cr1_any b0 b1 kb kl i hi w h

set_option maxHeartbeats 2000000 in
theorem settle_cr (g b0 b1 : Nat) (v : Value) (d : Dv) (kb : Nat) (kl : List Bool) (hws : ∀ x ∈ d.ws, d.has x.loc) (hn : d.ws.length ≤ 100000) (w : World) (h : DvAt w g b0 b1 v d) (hk : KpAt b0 b1 w kb kl) :
    Calls Tryd.prog 63 #[v, .func (.func 43) #[] #[.pointer (some ⟨kb, 0, none⟩)], .func (.func 48) #[.pointer (some ⟨g, 0, none⟩)] #[]] w fun e w' => e = .returned (.tuple #[]) ∧ DvAt w' g b0 b1 v (d.settle (kpB kl) d.ws.length) ∧ Keep w.heap.size (fun k => k = b0 ∨ k = b1) w w' := by
  obtain ⟨A, c, rfl, _, _⟩ := h.form
  go_enter Tryd.func63, Tryd.ntmps63
  go_wp2_with fail
  go_loopw [10] (fun i wr => ∃ k : Nat, k ≤ d.ws.length ∧ i = .int .i64 k ∧ DvAt wr g b0 b1 (.slice A d.ws.length c) (d.settle (kpB kl) k) ∧ Keep w.heap.size (fun k => k = b0 ∨ k = b1) w wr) (fun i _ => d.ws.length - (intOf i).toNat)
  case atStart => exact ⟨0, by omega, rfl, h, Keep.refl _ _ _⟩
  case round =>
    obtain ⟨k, hkk, rfl, hd, kw⟩ := hrel
    have hkp := hk.keep kw
    by_cases hlt : k < d.ws.length
    · have hown := hd.hw
      rw [Dv.settle_ws] at hown
      have hown := hown.row (by omega)
      obtain ⟨gr, rfl⟩ : ∃ gr, A = some ⟨gr, 0, none⟩ := by
        rcases hown.2 with ⟨_, h0⟩ | ⟨gr, cap, cur, e, _⟩
        · omega
        · simp at e; exact ⟨gr, e.1⟩
      obtain ⟨g1, g2, g3⟩ := wrsV_get d.ws k hlt
      have y0 := hown.cellAt (k * 3) (by omega)
      have y1 := hown.cellAt (k * 3 + 1) (by omega)
      have y2 := hown.cellAt (k * 3 + 2) (by omega)
      rw [g1] at y0
      rw [g2] at y1
      rw [g3] at y2
      obtain ⟨bk, hbk⟩ : ∃ b, kpB kl k = b := ⟨_, rfl⟩
      have HBK := Lib.hid hbk
      clear hbk
      have hset : d.settle (kpB kl) (k + 1) = if bk then (d.settle (kpB kl) k).put d.ws[k] else d.settle (kpB kl) k := by
        rw [Dv.settle, HBK.out, List.getElem?_eq_getElem hlt]
      have hhas : (d.settle (kpB kl) k).has d.ws[k].loc := (Dv.settle_has _ _ _ _).2 (hws _ (List.getElem_mem hlt))
      have HSET := Lib.hid hset
      have HHAS := Lib.hid hhas
      clear hset hhas g1 g2 g3 hown
      go_wp2_with fail
      obtain ⟨w5, hw5⟩ : ∃ x, wr.alloc (.cells #[.int .i64 d.ws[k].loc.dev, .int .i64 d.ws[k].loc.pos, .string (bstr d.ws[k].text)] 82) = x := ⟨_, rfl⟩
      obtain ⟨gl, hgl⟩ : ∃ g, wr.heap.size = g := ⟨_, rfl⟩
      have bl : Below wr.heap.size wr w5 := by rw [← hw5]; exact (Below.refl _ _).alloc (Nat.le_refl _) _
      have hl : Blk w5 gl 82 #[.int .i64 d.ws[k].loc.dev, .int .i64 d.ws[k].loc.pos, .string (bstr d.ws[k].text)] := by rw [← hw5, ← hgl]; exact Blk.new _ _ _
      rw [hw5]
      try rw [hgl]
      clear y0 y1 y2
      refine (cr1_to HBK.out b0 b1 kb (by omega) w5 (hkp.below bl)).mono ?_
      rintro e _ ⟨rfl, rfl⟩
      have kl5 : Keep w.heap.size (fun k => k = b0 ∨ k = b1) w w5 := kw.trans ((Keep.of_below bl).mono (B' := w.heap.size) (S' := fun k => k = b0 ∨ k = b1) kw.size (fun _ _ h => h))
      cases bk
      · go_wp2
        go_round
        case rel => exact ⟨k + 1, by omega, by go_num, by rw [HSET.out]; exact hd.below bl, kl5⟩
        case measure => simp [intOf]; omega
      · have z0 := hl.cell 0
        have z1 := hl.cell 1
        have z2 := hl.cell 2
        simp at z0 z1 z2
        go_wp2_with fail
        refine (dput_any g b0 b1 _ _ d.ws[k] HHAS.out w5 (hd.below bl)).mono ?_
        rintro e w6 ⟨rfl, hd6, k6⟩
        have kw6 : Keep w.heap.size (fun k => k = b0 ∨ k = b1) w w6 := kl5.trans (k6.mono (Nat.le_trans kw.size bl.size) (fun _ _ h => h))
        go_wp2
        go_round
        case rel => exact ⟨k + 1, by omega, by go_num, by rw [HSET.out]; exact hd6, kw6⟩
        case measure => simp [intOf]; omega
    · obtain rfl : k = d.ws.length := by omega
      go_wp2
      go_end0
      exact ⟨rfl, hd, kw⟩

end Go.Proofs.YtcamcjcmhjldpaaDoor
