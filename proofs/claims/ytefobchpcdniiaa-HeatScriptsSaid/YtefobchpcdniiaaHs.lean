/- container/heap: Init, Pop over items: their contracts. -/
import Derived.Test.YtefobchpcdniiaaHr
namespace Go.Proofs.Ytefobchpcdniiaa
open Go Go.RowKit Go.Maps
set_option linter.unusedSimpArgs false
set_option linter.unnecessarySimpa false
set_option linter.unusedVariables false

theorem downL_len (n : Nat) : ∀ (f : Nat) (c : List It) (i : Nat), (downL n f c i).length = c.length
  | 0, _, _ => rfl
  | f + 1, c, i => by
    rw [downL]
    split
    · split
      · rw [downL_len n f, swapL_len]
      · rfl
    · rfl
def initD (n : Nat) : Nat → List It → List It
  | 0, c => c
  | k + 1, c => initD n k (downL n n c k)
theorem initD_len (n : Nat) : ∀ (k : Nat) (c : List It), (initD n k c).length = c.length
  | 0, _ => rfl
  | k + 1, c => by rw [initD, initD_len n k, downL_len]
set_option maxHeartbeats 1000000 in
theorem init_any (lb rb cap m : Nat) (c : List It) (rest : List Value) (w : World) (h : HpAt w lb rb cap m c rest) :
    Calls Try.prog 24 #[hv lb] w fun e w' => e = .returned (.tuple #[]) ∧ HpAt w' lb rb cap m (initD m (m / 2) c) rest ∧ Keep w.heap.size (· = rb) w w' := by
  have hle := h.le
  have hbig := h.big
  have v0 := h.v.cell 0
  simp at v0
  have ml := meth_len v0
  have LN := len_items rb cap m
  obtain ⟨H, hH⟩ : ∃ y, m / 2 = y := ⟨_, rfl⟩
  have hm2 : (m : Int) / 2 = H := by omega
  have hm3 : (m : Int).tdiv 2 = H := by rw [Int.tdiv_eq_ediv_of_nonneg (by omega)]; exact hm2
  have e1 : IntKind.i64.wrap ((H : Int) - 1) = H - 1 := IntWalk.i64_in _ ⟨by omega, by omega⟩
  have e2 : IntKind.i64.wrap (H : Int) = H := IntWalk.i64_in _ ⟨by omega, by omega⟩
  have DN := fun (k : Nat) (hk : k ≤ 1000000) (c' : List It) (w' : World) (h' : HpAt w' lb rb cap m c' rest) => down_any lb rb cap m m k c' rest (Nat.le_refl _) hk w' h'
  rw [hH]
  have HH := Lib.hid hH
  have HD := Lib.hid DN
  unfold hv at HD ⊢
  clear hH DN
  go_enter Try.func24, Try.ntmps24
  go_wp2_with fail
  refine (LN _).mono ?_
  rintro e w1 ⟨rfl, hw1⟩
  rw [hw1]
  clear LN ml hw1
  go_wp2_with fail
  go_loopw [3] (fun i wr => ∃ (k : Nat) (z : Int) (c' : List It), k ≤ H ∧ z = (k : Int) - 1 ∧ i = .int .i64 z ∧ initD m k c' = initD m H c ∧ HpAt wr lb rb cap m c' rest ∧ Keep w.heap.size (· = rb) w wr) (fun i _ => (intOf i + 1).toNat)
  case atStart => exact ⟨H, _, c, Nat.le_refl _, rfl, by go_num, rfl, h, Keep.refl _ _ _⟩
  case round =>
    obtain ⟨k, z, c', hk, hz, rfl, hD, hh, hkp⟩ := hrel
    cases k with
    | zero =>
      obtain rfl : z = -1 := by omega
      have hfin : HpAt wr lb rb cap m (initD m H c) rest := by rw [← hD]; exact hh
      clear hD hz
      go_wp2
      go_end0
      exact ⟨rfl, hfin, hkp⟩
    | succ k =>
      obtain rfl : z = (k : Int) := by omega
      have q1 : decide ((k : Int) ≥ 0) = true := decide_eq_true (by omega)
      have hD1 : initD m k (downL m m c' k) = initD m H c := by rw [← hD, initD]
      have HI := Lib.hid hD1
      have D := HD.out k (by omega) c' wr hh
      clear hD hD1 hz
      go_wp2_with fail
      refine D.mono ?_
      rintro e w2 ⟨b, rfl, hh2, hk2⟩
      have hk2' : Keep w.heap.size (· = rb) w w2 := hkp.then hk2 hkp.size (fun _ _ h => h)
      go_wp2
      go_round
      case rel => exact ⟨k, (k : Int) - 1, _, by omega, rfl, by go_num, HI.out, hh2, hk2'⟩
      case measure => simp [intOf] <;> omega

set_option maxHeartbeats 1000000 in
theorem items_pop (lb rb cap m : Nat) (c : List It) (rest : List Value) (w : World) (h : HpAt w lb rb cap (m + 1) c rest) :
    Calls Try.prog 49 #[.pointer (some ⟨lb, 0, none⟩)] w fun e w' => e = .returned (.iface 61 (.agg #[.string (bstr (c.getD m default).key), .int .i64 (c.getD m default).w])) ∧ HpAt w' lb rb cap m c rest ∧ Keep w.heap.size (· = lb) w w' := by
  have hle := h.le
  have hbig := h.big
  have hcp := h.cp
  have v0 := h.v.cell 0
  simp at v0
  have vf := h.v.frozen 0
  obtain ⟨a0, a1⟩ := h.cells m (by omega)
  obtain ⟨⟨xk, xw⟩, hX⟩ : ∃ y, c.getD m default = y := ⟨_, rfl⟩
  rw [hX] at a0 a1
  rw [hX]
  simp only at a0 a1
  have e1 : IntKind.i64.wrap (((m + 1 : Nat) : Int) - 1) = m := by rw [IntWalk.i64_in _ ⟨by omega, by omega⟩]; omega
  have e2 : ((m + 1 : Nat) : Int) - 1 = m := by omega
  have T0 : (0 : Int) ≤ m := by omega
  have T1 : (m : Int) < ((m + 1 : Nat) : Int) := by omega
  have T2 : (m : Int) ≤ cap := by omega
  have hv1 := h.v.alloc (.cells #[.string (bstr xk), .int .i64 xw] 61)
  have hr1 := h.r.alloc (.cells #[.string (bstr xk), .int .i64 xw] 61)
  have hv2 := hv1.set_ 0 (.slice (some ⟨rb, 0, none⟩) m cap)
  have hr2 := hr1.far (p := ⟨lb, 0, none⟩) (fun e => h.ne e.symm) (.slice (some ⟨rb, 0, none⟩) m cap)
  have hx2 := (blk_at (w := w) (t := 61) (cs := #[.string (bstr xk), .int .i64 xw]) (g := w.heap.size) rfl).far (p := ⟨lb, 0, none⟩) (by have := h.v.lt; show w.heap.size ≠ lb; omega) (.slice (some ⟨rb, 0, none⟩) m cap)
  have x0 := hx2.cell 0
  have x1 := hx2.cell 1
  simp at x0 x1
  have v1 := hv1.cell 0
  have vf1 := hv1.frozen 0
  simp at v1 hv2
  have hfin : HpAt _ lb rb cap m c rest := ⟨hv2, hr2, by omega, hbig, by omega⟩
  have hkp : Keep w.heap.size (· = lb) w _ := (((Keep.refl _ _ _).alloc (Nat.le_refl _) (.cells #[.string (bstr xk), .int .i64 xw] 61)).set1 0 (.slice (some ⟨rb, 0, none⟩) m cap))
  have HF := Lib.hid hfin
  have HK := Lib.hid hkp
  clear hX hv1 hr1 hv2 hr2 hfin hkp hx2
  go_enter Try.func49, Try.ntmps49
  go_wp2
  go_ret
  exact ⟨rfl, HF.out, HK.out⟩

set_option maxHeartbeats 1000000 in
theorem heap_pop (lb rb cap m : Nat) (c : List It) (rest : List Value) (w : World) (h : HpAt w lb rb cap (m + 1) c rest) :
    Calls Try.prog 25 #[hv lb] w fun e w' => ∃ x, x = (downL m m (swapL c 0 m) 0).getD m default ∧ e = .returned (.iface 61 (.agg #[.string (bstr x.key), .int .i64 x.w])) ∧ HpAt w' lb rb cap m (downL m m (swapL c 0 m) 0) rest ∧ Keep w.heap.size (fun k => k = lb ∨ k = rb) w w' := by
  have hle := h.le
  have hbig := h.big
  have v0 := h.v.cell 0
  simp at v0
  have ml := meth_len v0
  have ms := meth_swap v0
  have LN := len_items rb cap (m + 1)
  have SW := swap_all lb rb cap (m + 1) c rest 0 m (by omega) (by omega) w h
  have e1 : IntKind.i64.wrap (((m + 1 : Nat) : Int) - 1) = m := by rw [IntWalk.i64_in _ ⟨by omega, by omega⟩]; omega
  have e2 : ((m + 1 : Nat) : Int) - 1 = m := by omega
  obtain ⟨c1, hc1⟩ : ∃ y, swapL c 0 m = y := ⟨_, rfl⟩
  rw [hc1] at SW ⊢
  obtain ⟨c2, hc2⟩ : ∃ y, downL m m c1 0 = y := ⟨_, rfl⟩
  have DN := fun (w' : World) (h' : HpAt w' lb rb cap (m + 1) c1 rest) => down_any lb rb cap (m + 1) m 0 c1 rest (by omega) (by omega) w' h'
  rw [hc2] at DN ⊢
  have PO := fun (w' : World) (h' : HpAt w' lb rb cap (m + 1) c2 rest) => items_pop lb rb cap m c2 rest w' h'
  have HD := Lib.hid DN
  have HP := Lib.hid PO
  obtain ⟨X, hX⟩ : ∃ y, c2.getD m default = y := ⟨_, rfl⟩
  have HX := Lib.hid hX
  unfold hv at HD ⊢
  clear hc1 hc2 DN PO hX
  go_enter Try.func25, Try.ntmps25
  go_wp2_with fail
  refine (LN _).mono ?_
  rintro e w1 ⟨rfl, hw1⟩
  rw [hw1]
  clear LN ml hw1
  go_wp2_with fail
  refine SW.mono ?_
  rintro e w2 ⟨rfl, hh2, hk2⟩
  have D := HD.out w2 hh2
  go_wp2_with fail
  refine D.mono ?_
  rintro e w3 ⟨b, rfl, hh3, hk3⟩
  have mp := fun n => meth_pop n ⟨lb, 0, none⟩ w3
  have P := HP.out w3 hh3
  go_wp2_with fail
  refine P.mono ?_
  rintro e w4 ⟨rfl, hh4, hk4⟩
  have hk23 : Keep w.heap.size (· = rb) w w3 := hk2.then hk3 hk2.size (fun _ _ h => h)
  have hk24 : Keep w.heap.size (fun k => k = lb ∨ k = rb) w w4 := (hk23.mono (S' := fun k => k = lb ∨ k = rb) (Nat.le_refl _) (fun _ _ h => .inr h)).then hk4 hk23.size (fun _ _ h => .inl h)
  rw [HX.out]
  go_wp2
  go_ret
  exact ⟨X, HX.out.symm, rfl, hh4, hk24⟩
end Go.Proofs.Ytefobchpcdniiaa
