/- The reference's devices: contracts of Spoil's other answers, Waits, New, Lose's other answer; Locs. -/
import Derived.Test.YtmlakbdigbpmaaaRv5
namespace Go.Proofs.Ytmlakbdigbpmaaa
open Go.RowKit
set_option linter.unusedSimpArgs false
set_option linter.unnecessarySimpa false
set_option linter.unusedVariables false

theorem rspoil_bad {e0 : Int} (g sb gb b0 b1 : Nat) (v : Value) (d : Dv) (l : Lc) (s : List UInt8) (he : Hid (mayE d l s = e0)) (hz : (e0 != 0) = true) (w : World) (h : RvAt w g sb gb b0 b1 v d) :
    Calls Try.prog 29 #[.pointer (some ⟨g, 0, none⟩), .agg #[.int .i64 l.dev, .int .i64 l.pos], .string (bstr s)] w fun e w' => e = .returned (.int .i64 e0) ∧ Below w.heap.size w w' := by
  go_enter Try.func29, Try.ntmps29
  go_wp2_with fail
  obtain ⟨G, hG⟩ : ∃ g, w.heap.size = g := ⟨_, rfl⟩
  obtain ⟨w0, hw0⟩ : ∃ x, w.alloc (.cells #[.int .i64 l.dev, .int .i64 l.pos] 29) = x := ⟨_, rfl⟩
  have bx : Below w.heap.size w w0 := by rw [← hw0]; exact (Below.refl _ _).alloc (Nat.le_refl _) _
  rw [hw0]
  try rw [hG]
  refine (rwrong_to he.out g sb gb b0 b1 v w0 (h.below bx)).mono ?_
  rintro e w1 ⟨rfl, c1⟩
  go_wp2
  go_ret
  exact ⟨rfl, bx.trans (c1.mono bx.size)⟩
theorem rlose_bad (g : Nat) (dev : Int) (h0 : Hid (¬ dev = 0)) (h1 : Hid (¬ dev = 1)) (w : World) :
    Calls Try.prog 30 #[.pointer (some ⟨g, 0, none⟩), .int .i64 dev] w fun e w' => e = .returned (.int .i64 1) ∧ w = w' := by
  have q0 : (dev != 0) = true := by simpa using h0.out
  have q1 : (dev != 1) = true := by simpa using h1.out
  go_enter Try.func30, Try.ntmps30
  go_wp2
  go_ret
  exact ⟨rfl, rfl⟩

set_option maxHeartbeats 2000000 in
theorem rwaits_any (g sb gb b0 b1 : Nat) (v : Value) (d : Dv) (hn : d.ws.length ≤ 100000) (w : World) (h : RvAt w g sb gb b0 b1 v d) :
    Calls Try.prog 15 #[.pointer (some ⟨g, 0, none⟩)] w fun e w' => ∃ u, e = .returned u ∧ w'.ownsRow w.heap.size 29 2 u d.ws.length (lcsV (d.ws.map Wr.loc)) ∧ Below w.heap.size w w' := by
  obtain ⟨A, c, rfl, _, _⟩ := h.form
  go_enter Try.func15, Try.ntmps15
  go_wp2_with fail
  go_loopw [3, 4] (fun u i wr => ∃ k : Nat, k ≤ d.ws.length ∧ i = .int .i64 k ∧ wr.ownsRow w.heap.size 29 2 u k (lcsV ((d.ws.take k).map Wr.loc)) ∧ Below w.heap.size w wr) (fun _ i _ => d.ws.length - (intOf i).toNat)
  case atStart => exact ⟨0, by omega, rfl, World.ownsRow_nil _ _ _ _, Below.refl _ _⟩
  case round =>
    obtain ⟨k, hk, rfl, hu, hbel⟩ := hrel
    have hd := h.below hbel
    have Y2 := hd.cell2.1
    by_cases hlt : k < d.ws.length
    · have q1 : decide ((k : Int) < (d.ws.length : Int)) = true := decide_eq_true (by omega)
      have hown := hd.hw.row (by omega)
      obtain ⟨gr, rfl⟩ : ∃ gr, A = some ⟨gr, 0, none⟩ := by
        rcases hown.2 with ⟨_, h0⟩ | ⟨gr, cap, cur, e, _⟩
        · omega
        · simp at e; exact ⟨gr, e.1⟩
      obtain ⟨g1, g2, g3⟩ := wrsV_get d.ws k hlt
      have y0 := hown.cellAt (k * 3) (by omega)
      have y1 := hown.cellAt (k * 3 + 1) (by omega)
      rw [g1] at y0
      rw [g2] at y1
      have hsz := hbel.size
      have htk : (d.ws.take (k + 1)).map Wr.loc = (d.ws.take k).map Wr.loc ++ [d.ws[k].loc] := by rw [List.take_succ_eq_append_getElem hlt, List.map_append]; rfl
      have HTK := Lib.hid htk
      have F1 : k + 1 ≤ maxLen := by unfold maxLen; omega
      have F2 : (k + 1) * 16 ≤ 140737488355328 := by omega
      have F1 := Lib.hid F1
      have F2 := Lib.hid F2
      clear htk g1 g2 g3 hown hd
      go_wp2_with (at_builtin; refine wpList_app2 (P := Try.prog) _ rfl _ _ 35 rfl w.heap.size 29 (.agg #[.int .i64 0, .int .i64 0]) 2 16 Try.underlying35 loc_info rfl (by decide) _ k (lcsV ((d.ws.take k).map Wr.loc)) rfl hu _ (g := wr.heap.size) rfl rfl rfl ?c1 F1.out F2.out hsz ?_)
      case c1 => intro u hu; simp at hu; rcases hu with rfl | rfl <;> rfl
      intro v' w10 hown10 hgrow10 hb10
      have hb11 : Below w.heap.size w w10 := hbel.trans hb10
      go_wp2
      go_round
      case rel => exact ⟨k + 1, by omega, by go_num, by rw [HTK.out, lcsV_snoc]; simpa [lcV, List.map_take] using hown10, hb11⟩
      case measure => simp [intOf]; omega
    · obtain rfl : k = d.ws.length := by omega
      have q1 : decide ((d.ws.length : Int) < (d.ws.length : Int)) = false := decide_eq_false (by omega)
      rw [List.take_length] at hu
      go_wp2
      go_ret
      exact ⟨_, rfl, hu, hbel⟩

/-! Locs -/
theorem lcsV_get : ∀ (l : List Lc) (i : Nat) (h : i < l.length), (lcsV l)[i * 2]? = some (.int .i64 l[i].dev) ∧ (lcsV l)[i * 2 + 1]? = some (.int .i64 l[i].pos)
  | a :: l, 0, _ => by simp [lcsV, lcV]
  | a :: l, i + 1, h => by
    have := lcsV_get l i (by simpa using h)
    have e : lcsV (a :: l) = .int .i64 a.dev :: .int .i64 a.pos :: lcsV l := rfl
    rw [e, show (i + 1) * 2 = i * 2 + 1 + 1 by omega]
    simpa using this
theorem row_form {w : World} {base n size : Nat} {e : TypeId} {v : Value} {xs : List Value} (h : w.ownsRow base e size v n xs) : ∃ A c, v = .slice A n c := by
  rcases h.2 with ⟨rfl, rfl⟩ | ⟨g, cap, cur, rfl, _⟩
  · exact ⟨_, _, rfl⟩
  · exact ⟨_, _, rfl⟩
theorem row_addr {w : World} {base n size c : Nat} {e : TypeId} {A : Option Addr} {xs : List Value} (h : w.ownsRow base e size (.slice A n c) n xs) (hn : 0 < n) : ∃ g, A = some ⟨g, 0, none⟩ := by
  rcases h.2 with ⟨_, h0⟩ | ⟨g, cap, cur, e, _⟩
  · omega
  · simp at e; exact ⟨g, e.1⟩
theorem take_eq_step {a b : List Lc} {k : Nat} (ha : k < a.length) (hb : k < b.length) (h : a.take k = b.take k) : a.take (k + 1) = b.take (k + 1) ↔ a[k] = b[k] := by
  rw [List.take_succ_eq_append_getElem ha, List.take_succ_eq_append_getElem hb, h]
  refine ⟨fun e => ?_, fun e => by rw [e]⟩
  have := List.append_cancel_left e
  simpa using this
set_option maxHeartbeats 2000000 in
theorem locs_any (base1 base2 : Nat) (u v : Value) (a b : List Lc) (hn : a.length ≤ 100000) (hm : b.length ≤ 100000) (w : World) (ha : w.ownsRow base1 29 2 u a.length (lcsV a)) (hb : w.ownsRow base2 29 2 v b.length (lcsV b)) :
    Calls Try.prog 13 #[u, v] w fun e w' => e = .returned (.bool (decide (a = b))) ∧ Below w.heap.size w w' := by
  obtain ⟨A, c, rfl⟩ := row_form ha
  obtain ⟨B, c', rfl⟩ := row_form hb
  by_cases hl : a.length = b.length
  · have HL := Lib.hid hl
    have q0 : ((a.length : Int) != (b.length : Int)) = false := by simp [hl]
    have q0' : decide ((a.length : Int) = (b.length : Int)) = true := by simp [hl]
    clear hl
    go_enter Try.func13, Try.ntmps13
    go_wp2_with fail
    go_loopw [5] (fun i wr => ∃ k : Nat, k ≤ a.length ∧ i = .int .i64 k ∧ Hid (a.take k = b.take k) ∧ Below w.heap.size w wr) (fun i _ => a.length - (intOf i).toNat)
    case atStart => exact ⟨0, by omega, rfl, Lib.hid (by simp), Below.refl _ _⟩
    case round =>
      obtain ⟨k, hk, rfl, HT, hbel⟩ := hrel
      by_cases hlt : k < a.length
      · have hlt2 : k < b.length := by have := HL.out; omega
        have q1 : decide ((k : Int) < (a.length : Int)) = true := decide_eq_true (by omega)
        obtain ⟨ga, rfl⟩ := row_addr ha (by omega)
        obtain ⟨gb, rfl⟩ := row_addr hb (by omega)
        have ha2 := row_below ha hbel
        have hb2 := row_below hb hbel
        obtain ⟨g1, g2⟩ := lcsV_get a k hlt
        obtain ⟨g3, g4⟩ := lcsV_get b k hlt2
        have y0 := ha2.at0.cellAt (k * 2) (by omega)
        have y1 := ha2.at0.cellAt (k * 2 + 1) (by omega)
        have z0 := hb2.at0.cellAt (k * 2) (by omega)
        have z1 := hb2.at0.cellAt (k * 2 + 1) (by omega)
        rw [g1] at y0
        rw [g2] at y1
        rw [g3] at z0
        rw [g4] at z1
        have hst := Lib.hid (take_eq_step hlt hlt2 HT.out)
        clear g1 g2 g3 g4 ha2 hb2
        have hI : (k : Int) < a.length := by omega
        have hI2 : (k : Int) < b.length := by omega
        have hI0 : (0 : Int) ≤ k := by omega
        obtain ⟨ad, had⟩ : ∃ x, a[k].dev = x := ⟨_, rfl⟩
        obtain ⟨ap, hap⟩ : ∃ x, a[k].pos = x := ⟨_, rfl⟩
        obtain ⟨bd, hbd⟩ : ∃ x, b[k].dev = x := ⟨_, rfl⟩
        obtain ⟨bp, hbp⟩ : ∃ x, b[k].pos = x := ⟨_, rfl⟩
        have hiff := Lib.hid (lc_eq a[k] b[k])
        rw [had] at y0
        rw [hap] at y1
        rw [hbd] at z0
        rw [hbp] at z1
        rw [had, hap, hbd, hbp] at hiff
        clear had hap hbd hbp
        by_cases m1 : ad = bd
        · subst m1
          by_cases m2 : ap = bp
          · subst m2
            go_wp2_with fail
            go_quiet (fail)
            go_wp2
            go_round
            case rel => exact ⟨k + 1, by omega, by go_num, Lib.hid (hst.out.2 (hiff.out.2 (by simp))), hbel.dN _⟩
            case measure => simp [intOf]; omega
          · go_wp2_with fail
            go_quiet (fail)
            go_wp2
            go_ret
            refine ⟨ret_bool ?_, hbel.dN _⟩
            symm
            rw [decide_eq_false_iff_not]
            intro e
            exact m2 ((hiff.out.1 (hst.out.1 (by rw [e]))).2)
        · go_wp2_with fail
          go_quiet (fail)
          go_wp2
          go_ret
          refine ⟨ret_bool ?_, hbel.dN _⟩
          symm
          rw [decide_eq_false_iff_not]
          intro e
          exact m1 ((hiff.out.1 (hst.out.1 (by rw [e]))).1)
      · obtain rfl : k = a.length := by omega
        have q1 : decide ((a.length : Int) < (a.length : Int)) = false := decide_eq_false (by omega)
        have hab : Hid (a = b) := Lib.hid (by have := HT.out; rw [List.take_length, HL.out, List.take_length] at this; exact this)
        go_wp2
        go_ret
        refine ⟨ret_bool ?_, hbel⟩
        symm
        rw [decide_eq_true_iff]
        exact hab.out
  · have q0 : ((a.length : Int) != (b.length : Int)) = true := by simp; omega
    have q0' : decide ((a.length : Int) = (b.length : Int)) = false := by simp; omega
    have hab : Hid (¬ a = b) := Lib.hid (fun e => hl (by rw [e]))
    clear hl
    go_enter Try.func13, Try.ntmps13
    go_wp2
    go_ret
    refine ⟨ret_bool ?_, Below.refl _ _⟩
    symm
    rw [decide_eq_false_iff_not]
    exact hab.out

end Go.Proofs.Ytmlakbdigbpmaaa
