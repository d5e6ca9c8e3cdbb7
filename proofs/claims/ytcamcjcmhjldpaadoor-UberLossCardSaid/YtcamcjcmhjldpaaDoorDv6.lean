/- Package dev: put, at either device; Flush's closure: contracts. -/
import Derived.Test.YtcamcjcmhjldpaaDoorDv5
import Derived.Laws.OwnMore
namespace Go.Proofs.YtcamcjcmhjldpaaDoor
open Go.RowKit
set_option linter.unusedSimpArgs false
set_option linter.unnecessarySimpa false
set_option linter.unusedVariables false

set_option maxHeartbeats 400000 in
theorem fl1_any (i : Int) (w : World) :
    Calls Tryd.prog 42 #[.int .i64 i] w fun e w' => e = .returned (.bool true) ∧ w = w' := by
  go_enter Tryd.func42, Tryd.ntmps42
  go_wp2
  go_ret
  exact ⟨rfl, rfl⟩

/-- the writes that wait, those that are kept, done one behind the other -/
def Dv.settle (d : Dv) (kf : Nat → Bool) : Nat → Dv
  | 0 => d
  | n + 1 => if kf n then (match d.ws[n]? with | some x => (d.settle kf n).put x | none => d.settle kf n) else d.settle kf n
theorem Dv.settle_ws (d : Dv) (kf : Nat → Bool) : ∀ n, (d.settle kf n).ws = d.ws
  | 0 => rfl
  | n + 1 => by
    unfold Dv.settle
    have ih := Dv.settle_ws d kf n
    split
    · split
      · rw [Dv.put_ws, ih]
      · exact ih
    · exact ih
theorem Dv.settle_has (d : Dv) (kf : Nat → Bool) (l : Lc) : ∀ n, (d.settle kf n).has l ↔ d.has l
  | 0 => Iff.rfl
  | n + 1 => by
    unfold Dv.settle
    have ih := Dv.settle_has d kf l n
    split
    · split
      · rw [Dv.put_has, ih]
      · exact ih
    · exact ih

set_option maxHeartbeats 2000000 in
theorem settle_all (g b0 b1 : Nat) (v : Value) (d : Dv) (hws : ∀ x ∈ d.ws, d.has x.loc) (hn : d.ws.length ≤ 100000) (w : World) (h : DvAt w g b0 b1 v d) :
    Calls Tryd.prog 63 #[v, .func (.func 42) #[] #[], .func (.func 48) #[.pointer (some ⟨g, 0, none⟩)] #[]] w fun e w' => e = .returned (.tuple #[]) ∧ DvAt w' g b0 b1 v (d.settle (fun _ => true) d.ws.length) ∧ Keep w.heap.size (fun k => k = b0 ∨ k = b1) w w' := by
  obtain ⟨A, c, rfl, _, _⟩ := h.form
  go_enter Tryd.func63, Tryd.ntmps63
  go_wp2_with fail
  go_loopw [10] (fun i wr => ∃ k : Nat, k ≤ d.ws.length ∧ i = .int .i64 k ∧ DvAt wr g b0 b1 (.slice A d.ws.length c) (d.settle (fun _ => true) k) ∧ Keep w.heap.size (fun k => k = b0 ∨ k = b1) w wr) (fun i _ => d.ws.length - (intOf i).toNat)
  case atStart => exact ⟨0, by omega, rfl, h, Keep.refl _ _ _⟩
  case round =>
    obtain ⟨k, hk, rfl, hd, kw⟩ := hrel
    by_cases hlt : k < d.ws.length
    · have hown := hd.hw
      rw [Dv.settle_ws] at hown
      have hown := hown.row (by omega)
      obtain ⟨gr, rfl⟩ : ∃ gr, A = some ⟨gr, 0, none⟩ := by
        rcases hown.2 with ⟨_, h0⟩ | ⟨gr, cap, cur, e, _⟩
        · omega
        · simp at e; exact ⟨gr, e.1⟩
      obtain ⟨g1, g2, g3⟩ := wrsV_get d.ws k hlt
      have y0 := hown.cellAt (k * 3) (by omega)
      have y1 := hown.cellAt (k * 3 + 1) (by omega)
      have y2 := hown.cellAt (k * 3 + 2) (by omega)
      rw [g1] at y0
      rw [g2] at y1
      rw [g3] at y2
      have hset : d.settle (fun _ => true) (k + 1) = (d.settle (fun _ => true) k).put d.ws[k] := by
        rw [Dv.settle, if_pos rfl, List.getElem?_eq_getElem hlt]
      have hhas : (d.settle (fun _ => true) k).has d.ws[k].loc := (Dv.settle_has _ _ _ _).2 (hws _ (List.getElem_mem hlt))
      have HSET := Lib.hid hset
      have HHAS := Lib.hid hhas
      clear hset hhas g1 g2 g3 hown
      go_wp2_with fail
      obtain ⟨w5, hw5⟩ : ∃ x, wr.alloc (.cells #[.int .i64 d.ws[k].loc.dev, .int .i64 d.ws[k].loc.pos, .string (bstr d.ws[k].text)] 82) = x := ⟨_, rfl⟩
      obtain ⟨gl, hgl⟩ : ∃ g, wr.heap.size = g := ⟨_, rfl⟩
      have bl : Below wr.heap.size wr w5 := by rw [← hw5]; exact (Below.refl _ _).alloc (Nat.le_refl _) _
      have hl : Blk w5 gl 82 #[.int .i64 d.ws[k].loc.dev, .int .i64 d.ws[k].loc.pos, .string (bstr d.ws[k].text)] := by rw [← hw5, ← hgl]; exact Blk.new _ _ _
      rw [hw5]
      try rw [hgl]
      clear y0 y1 y2
      refine (fl1_any _ w5).mono ?_
      rintro e _ ⟨rfl, rfl⟩
      have z0 := hl.cell 0
      have z1 := hl.cell 1
      have z2 := hl.cell 2
      simp at z0 z1 z2
      go_wp2_with fail
      refine (dput_any g b0 b1 _ _ d.ws[k] HHAS.out w5 (hd.below bl)).mono ?_
      rintro e w6 ⟨rfl, hd6, k6⟩
      have kw6 : Keep w.heap.size (fun k => k = b0 ∨ k = b1) w w6 := (kw.trans ((Keep.of_below bl).mono (B' := w.heap.size) (S' := fun k => k = b0 ∨ k = b1) kw.size (fun _ _ h => h))).trans (k6.mono (Nat.le_trans kw.size bl.size) (fun _ _ h => h))
      go_wp2
      go_round
      case rel => exact ⟨k + 1, by omega, by go_num, by rw [HSET.out]; exact hd6, kw6⟩
      case measure => simp [intOf]; omega
    · obtain rfl : k = d.ws.length := by omega
      go_wp2
      go_end0
      exact ⟨rfl, hd, kw⟩

end Go.Proofs.YtcamcjcmhjldpaaDoor
