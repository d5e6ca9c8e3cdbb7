/- Package dev: slices.IndexFunc at the closures of Lose and Spoil: contracts. -/
import Derived.Test.YtcamcjcmhjldpaaDoorDvB
namespace Go.Proofs.YtcamcjcmhjldpaaDoor
open Go.RowKit
set_option linter.unusedSimpArgs false
set_option linter.unnecessarySimpa false
set_option linter.unusedVariables false

/-- the first one of a list that p holds of; -1: there is none -/
def IsFirst (p : Wr → Bool) (l : List Wr) (i : Int) : Prop := (i = -1 ∧ ∀ x ∈ l, p x = false) ∨ (∃ k, ∃ h : k < l.length, i = (k : Int) ∧ p l[k] = true ∧ ∀ x ∈ l.take k, p x = false)

set_option maxHeartbeats 1000000 in
theorem idxl_any (v : Value) (l : List Wr) (kb : Nat) (w : World) (dv : Int) (hb : Blk w kb 3 #[.int .i64 dv]) (hown : Owns w 82 3 v l.length (wrsV l)) (hn : l.length ≤ 100000) :
    Calls Tryd.prog 72 #[v, .func (.func 50) #[] #[.pointer (some ⟨kb, 0, none⟩)]] w fun e w' => (∃ i : Int, e = .returned (.int .i64 i) ∧ IsFirst (fun x => x.loc.dev == dv) l i) ∧ Below w.heap.size w w' := by
  obtain ⟨A, c, rfl, _, _⟩ := hown.form
  go_enter Tryd.func72, Tryd.ntmps72
  go_wp2_with fail
  go_loopw [8] (fun i wr => ∃ k : Nat, k ≤ l.length ∧ i = .int .i64 k ∧ (∀ x ∈ l.take k, (fun x => x.loc.dev == dv) x = false) ∧ Below w.heap.size w wr) (fun i _ => l.length - (intOf i).toNat)
  case atStart => exact ⟨0, by omega, rfl, by simp, Below.refl _ _⟩
  case round =>
    obtain ⟨k, hk, rfl, hno, hbel⟩ := hrel
    have HNO := Lib.hid hno
    clear hno
    have hsz := hbel.size
    by_cases hlt : k < l.length
    · have ho := (hown.below hbel).row (by omega)
      obtain ⟨gr, rfl⟩ : ∃ gr, A = some ⟨gr, 0, none⟩ := by
        rcases ho.2 with ⟨_, h0⟩ | ⟨gr, cap, cur, e, _⟩
        · omega
        · simp at e; exact ⟨gr, e.1⟩
      obtain ⟨g1, g2, g3⟩ := wrsV_get l k hlt
      have y0 := ho.cellAt (k * 3) (by omega)
      have y1 := ho.cellAt (k * 3 + 1) (by omega)
      have y2 := ho.cellAt (k * 3 + 2) (by omega)
      rw [g1] at y0
      rw [g2] at y1
      rw [g3] at y2
      clear g1 g2 g3 ho
      obtain ⟨b, hb2⟩ : ∃ b, (fun x => x.loc.dev == dv) l[k] = b := ⟨_, rfl⟩
      have HB := Lib.hid hb2
      go_wp2_with fail
      refine (ls1_any kb dv l[k] wr (hb.below hbel hb.lt)).mono ?_
      rintro e w1 ⟨rfl, b1⟩
      try simp only at hb2
      rw [hb2]
      clear hb2
      cases b
      · go_wp2
        go_round
        case rel =>
          refine ⟨k + 1, by omega, by go_num, ?_, hbel.trans (b1.mono hsz)⟩
          intro x hx
          rw [List.take_succ_eq_append_getElem hlt] at hx
          rcases List.mem_append.1 hx with hx | hx
          · exact HNO.out x hx
          · simp at hx; subst hx; exact HB.out
        case measure => simp [intOf]; omega
      · go_wp2
        go_ret
        exact ⟨⟨k, rfl, .inr ⟨k, hlt, rfl, HB.out, HNO.out⟩⟩, hbel.trans (b1.mono hsz)⟩
    · obtain rfl : k = l.length := by omega
      go_wp2
      go_ret
      have hh := HNO.out
      rw [List.take_length] at hh
      exact ⟨⟨-1, rfl, .inl ⟨rfl, hh⟩⟩, hbel⟩

set_option maxHeartbeats 1000000 in
theorem idxs_any (v : Value) (l : List Wr) (kb : Nat) (w : World) (lc : Lc) (hb : Blk w kb 51 #[.int .i64 lc.dev, .int .i64 lc.pos]) (hown : Owns w 82 3 v l.length (wrsV l)) (hn : l.length ≤ 100000) :
    Calls Tryd.prog 72 #[v, .func (.func 47) #[] #[.pointer (some ⟨kb, 0, none⟩)]] w fun e w' => (∃ i : Int, e = .returned (.int .i64 i) ∧ IsFirst (fun x => decide (x.loc = lc)) l i) ∧ Below w.heap.size w w' := by
  obtain ⟨A, c, rfl, _, _⟩ := hown.form
  go_enter Tryd.func72, Tryd.ntmps72
  go_wp2_with fail
  go_loopw [8] (fun i wr => ∃ k : Nat, k ≤ l.length ∧ i = .int .i64 k ∧ (∀ x ∈ l.take k, (fun x => decide (x.loc = lc)) x = false) ∧ Below w.heap.size w wr) (fun i _ => l.length - (intOf i).toNat)
  case atStart => exact ⟨0, by omega, rfl, by simp, Below.refl _ _⟩
  case round =>
    obtain ⟨k, hk, rfl, hno, hbel⟩ := hrel
    have HNO := Lib.hid hno
    clear hno
    have hsz := hbel.size
    by_cases hlt : k < l.length
    · have ho := (hown.below hbel).row (by omega)
      obtain ⟨gr, rfl⟩ : ∃ gr, A = some ⟨gr, 0, none⟩ := by
        rcases ho.2 with ⟨_, h0⟩ | ⟨gr, cap, cur, e, _⟩
        · omega
        · simp at e; exact ⟨gr, e.1⟩
      obtain ⟨g1, g2, g3⟩ := wrsV_get l k hlt
      have y0 := ho.cellAt (k * 3) (by omega)
      have y1 := ho.cellAt (k * 3 + 1) (by omega)
      have y2 := ho.cellAt (k * 3 + 2) (by omega)
      rw [g1] at y0
      rw [g2] at y1
      rw [g3] at y2
      clear g1 g2 g3 ho
      obtain ⟨b, hb2⟩ : ∃ b, (fun x => decide (x.loc = lc)) l[k] = b := ⟨_, rfl⟩
      have HB := Lib.hid hb2
      go_wp2_with fail
      refine (sp1_any kb lc l[k] wr (hb.below hbel hb.lt)).mono ?_
      rintro e w1 ⟨rfl, b1⟩
      try simp only at hb2
      rw [hb2]
      clear hb2
      cases b
      · go_wp2
        go_round
        case rel =>
          refine ⟨k + 1, by omega, by go_num, ?_, hbel.trans (b1.mono hsz)⟩
          intro x hx
          rw [List.take_succ_eq_append_getElem hlt] at hx
          rcases List.mem_append.1 hx with hx | hx
          · exact HNO.out x hx
          · simp at hx; subst hx; exact HB.out
        case measure => simp [intOf]; omega
      · go_wp2
        go_ret
        exact ⟨⟨k, rfl, .inr ⟨k, hlt, rfl, HB.out, HNO.out⟩⟩, hbel.trans (b1.mono hsz)⟩
    · obtain rfl : k = l.length := by omega
      go_wp2
      go_ret
      have hh := HNO.out
      rw [List.take_length] at hh
      exact ⟨⟨-1, rfl, .inl ⟨rfl, hh⟩⟩, hbel⟩

end Go.Proofs.YtcamcjcmhjldpaaDoor
