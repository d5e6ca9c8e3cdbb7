/- The reference of package heat: find, Value, Forget: contracts. -/
import Derived.Test.YtefobchpcdniiaaHra
namespace Go.Proofs.Ytefobchpcdniiaa
open Go Go.RowKit Go.Maps
set_option linter.unusedSimpArgs false
set_option linter.unnecessarySimpa false
set_option linter.unusedVariables false

/-- the first place of a key -/
def plc (L : List Cn) (k : List UInt8) : Option Nat := L.findIdx? fun c => c.key == k
def plcI (L : List Cn) (k : List UInt8) : Int := match plc L k with | some i => i | none => -1
theorem plc_fnd {L : List Cn} {k : List UInt8} : fnd L k = match plc L k with | some i => L[i]? | none => none := by
  unfold fnd plc
  induction L with
  | nil => rfl
  | cons c L ih =>
    rw [List.find?_cons, List.findIdx?_cons]
    by_cases h : c.key == k
    · simp [h]
    · simp only [h, ih]
      cases hh : List.findIdx? (fun c => c.key == k) L <;> simp
theorem plc_lt {L : List Cn} {k : List UInt8} {i : Nat} (h : plc L k = some i) : i < L.length := by
  unfold plc at h
  rw [List.findIdx?_eq_some_iff_getElem] at h
  exact h.1
theorem plc_at {L : List Cn} {k : List UInt8} {j : Nat} (hj : j < L.length) (h : ∀ i (hi : i < j), (L[i]'(by omega)).key ≠ k) (e : L[j].key = k) : plc L k = some j := by
  unfold plc
  rw [List.findIdx?_eq_some_iff_getElem]
  exact ⟨hj, by simp [e], fun i hi => by simpa using h i hi⟩
theorem plc_none {L : List Cn} {k : List UInt8} (h : ∀ i (hi : i < L.length), L[i].key ≠ k) : plc L k = none := by
  unfold plc
  rw [List.findIdx?_eq_none_iff]
  intro c hc
  obtain ⟨i, hi, rfl⟩ := List.getElem_of_mem hc
  simpa using h i hi

set_option maxHeartbeats 2000000 in
theorem rfind_any (g : Nat) (v : Value) (L : List Cn) (k : List UInt8) (hn : L.length ≤ 1000) (w : World) (h : RfAt w g v L) :
    Calls Try.prog 22 #[.pointer (some ⟨g, 0, none⟩), .string (bstr k)] w fun e w' => e = .returned (.int .i64 (plcI L k)) ∧ w' = w := by
  obtain ⟨A, c, rfl⟩ := h.form
  have Y0 := h.1.cell 0
  simp at Y0
  go_enter Try.func22, Try.ntmps22
  go_wp2_with fail
  go_loopw [5] (fun i wr => ∃ j : Nat, j ≤ L.length ∧ i = .int .i64 j ∧ Hid (∀ i (hi : i < j) (hl : i < L.length), L[i].key ≠ k) ∧ wr = w) (fun i _ => L.length - (intOf i).toNat)
  case atStart => exact ⟨0, by omega, rfl, Lib.hid (by omega), rfl⟩
  case round =>
    obtain ⟨j, hj, rfl, HT, rfl⟩ := hrel
    by_cases hlt : j < L.length
    · have q1 : decide ((j : Int) < (L.length : Int)) = true := decide_eq_true (by omega)
      obtain ⟨b, c', e, hrow⟩ := h.row (by omega)
      cases e
      obtain ⟨g1, g2, g3⟩ := cnsV_get L j hlt
      have y0 := hrow.cellAt (j * 3) (by omega)
      rw [g1] at y0
      by_cases hk : L[j].key = k
      · have hr : plcI L k = j := by
          unfold plcI
          rw [plc_at hlt (fun i hi => HT.out i hi (by omega)) hk]
        have HR := Lib.hid hr
        have q2 : (L[j].key == k) = true := by simp [hk]
        clear hr g1 g2 g3 hrow hk
        go_wp2
        go_ret
        exact ⟨by rw [HR.out]; rfl, rfl⟩
      · have q2 : (L[j].key == k) = false := by simp [hk]
        have HT' : Hid (∀ i (hi : i < j + 1) (hl : i < L.length), L[i].key ≠ k) := Lib.hid (fun i hi hl => by
          by_cases e : i = j
          · subst e; exact hk
          · exact HT.out i (by omega) hl)
        clear g1 g2 g3 hrow hk HT
        go_wp2
        go_roundw
        case rel => exact ⟨j + 1, by omega, by go_num, HT', by simp⟩
        case measure => simp [intOf]; omega
    · obtain rfl : j = L.length := by omega
      have q1 : decide ((L.length : Int) < (L.length : Int)) = false := decide_eq_false (by omega)
      have hr : plcI L k = -1 := by
        unfold plcI
        rw [plc_none (fun i hi => HT.out i hi hi)]
      have HR := Lib.hid hr
      clear hr HT
      go_wp2
      go_ret
      exact ⟨by rw [HR.out]; rfl, rfl⟩
theorem rfind_to {L : List Cn} {k : List UInt8} {z : Int} (hz : plcI L k = z) (g : Nat) (v : Value) (hn : L.length ≤ 1000) (w : World) (h : RfAt w g v L) :
    Calls Try.prog 22 #[.pointer (some ⟨g, 0, none⟩), .string (bstr k)] w fun e w' => e = .returned (.int .i64 z) ∧ w' = w := hz ▸ rfind_any g v L k hn w h
theorem rworth_to {c : Cn} {now z : Int} (hz : worthH c.n c.tick now = z) (hc : c.ok) (hw : (Lit.int .i64 now).wf = true) (w : World) :
    Calls Try.prog 23 #[.agg #[.string (bstr c.key), .int .i64 c.n, .int .i64 c.tick], .int .i64 now] w fun e w' => e = .returned (.int .i64 z) ∧ Below w.heap.size w w' := hz ▸ rworth_any c now hc hw w

set_option maxHeartbeats 2000000 in
theorem rvalue_any (g : Nat) (v : Value) (L : List Cn) (k : List UInt8) (now : Int) (hw : (Lit.int .i64 now).wf = true) (hn : L.length ≤ 1000) (w : World) (h : RfAt w g v L) :
    Calls Try.prog 16 #[.pointer (some ⟨g, 0, none⟩), .string (bstr k), .int .i64 now] w fun e w' => e = .returned (.int .i64 (valL L k now)) ∧ Below w.heap.size w w' := by
  have hf := @plc_fnd L k
  cases hp : plc L k with
  | none =>
    rw [hp] at hf
    have hz : plcI L k = -1 := by unfold plcI; rw [hp]
    have hv : valL L k now = 0 := by unfold valL; rw [hf]
    rw [hv]
    clear hv hf hp
    go_enter Try.func16, Try.ntmps16
    go_wp2_with fail
    refine (rfind_to hz g v hn w h).mono ?_
    rintro e w1 ⟨rfl, rfl⟩
    go_wp2
    go_ret
    exact ⟨rfl, Below.refl _ _⟩
  | some j =>
    have hj := plc_lt hp
    rw [hp] at hf
    simp only [List.getElem?_eq_getElem hj] at hf
    have hz : plcI L k = j := by unfold plcI; rw [hp]
    have hv : valL L k now = worthH L[j].n L[j].tick now := by unfold valL; rw [hf]
    rw [hv]
    obtain ⟨x, hx⟩ : ∃ x, worthH L[j].n L[j].tick now = x := ⟨_, rfl⟩
    rw [hx]
    have Y0 := h.1.cell 0
    simp at Y0
    obtain ⟨b, c', rfl, hrow⟩ := h.row (by omega)
    obtain ⟨g1, g2, g3⟩ := cnsV_get L j hj
    have y0 := hrow.cellAt (j * 3) (by omega)
    have y1 := hrow.cellAt (j * 3 + 1) (by omega)
    have y2 := hrow.cellAt (j * 3 + 2) (by omega)
    rw [g1] at y0
    rw [g2] at y1
    rw [g3] at y2
    have hok := h.2.2 L[j] (List.getElem_mem hj)
    clear hv hf hp g1 g2 g3 hrow
    go_enter Try.func16, Try.ntmps16
    go_wp2_with fail
    refine (rfind_to hz g _ hn w h).mono ?_
    rintro e w1 ⟨rfl, rfl⟩
    have HX := Lib.hid hx
    clear hx hz
    go_wp2_with fail
    refine (rworth_to HX.out hok hw _).mono ?_
    rintro e w1 ⟨rfl, c1⟩
    go_wp2
    go_ret
    exact ⟨rfl, c1⟩
end Go.Proofs.Ytefobchpcdniiaa
