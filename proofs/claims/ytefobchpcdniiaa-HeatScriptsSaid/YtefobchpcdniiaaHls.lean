/- Package heat's laws: scripts of touches; HeatFades, HeatForgets: plain part. -/
import Derived.Test.YtefobchpcdniiaaHli
import Derived.Test.YtefobchpcdniiaaTy
namespace Go.Proofs.Ytefobchpcdniiaa
open Go Go.RowKit Go.Maps
set_option linter.unusedSimpArgs false
set_option linter.unnecessarySimpa false
set_option linter.unusedVariables false

theorem add_add' (a : Addr) (i j : Nat) : (a.add i).add j = a.add (i + j) := by
  unfold Addr.add
  by_cases hi : i = 0 <;> by_cases hj : j = 0 <;> simp [hi, hj, Nat.add_assoc]
/-- the cells of a script's call -/
theorem op_cells {w0 w : World} {A : Option Addr} {n c : Nat} {l : List D_permafrostlaw12_Op} (h : SlAt w0.heap.size w0 (R_permafrostlaw12_Op w0.heap.size w0) 4 [.slice A n c] l) (hb : Below w0.heap.size w0 w) (k : Nat) (hk : k < l.length) :
    ∃ ad, A = some ad ∧ (ad.add (k * 4)).block < w0.heap.size ∧ w.cell? (ad.add (k * 4)) = some (.int .i64 l[k].do_) ∧ w.cell? ⟨(ad.add (k * 4)).block, (ad.add (k * 4)).off + 1, none⟩ = some (.string (bstr l[k].key)) ∧
      w.cell? ⟨(ad.add (k * 4)).block, (ad.add (k * 4)).off + 2, none⟩ = some (.int .i64 l[k].now) ∧ w.cell? ⟨(ad.add (k * 4)).block, (ad.add (k * 4)).off + 3, none⟩ = some (.int .i64 l[k].n) ∧
      (Lit.int .i64 l[k].now).wf = true ∧ l[k].key.length ≤ maxLen ∧ (Lit.int .i64 l[k].n).wf = true ∧ (Lit.int .i64 l[k].do_).wf = true := by
  obtain ⟨A', n', c', e, rfl, hc, hm, hx⟩ := h
  simp at e
  obtain ⟨rfl, rfl, rfl⟩ := e
  obtain ⟨ad, rfl, had, hcell⟩ := hx (by omega)
  obtain ⟨es, hl, ⟨rfl, k1, k2, k3, k4⟩, hu⟩ := hcell k l[k] (List.getElem?_eq_getElem hk)
  have e : ∀ j, (ad.add j).block < w0.heap.size := fun j => by unfold Addr.add; split <;> exact had
  have go : ∀ j u, [Value.int .i64 l[k].do_, .string (bstr l[k].key), .int .i64 l[k].now, .int .i64 l[k].n][j]? = some u → w.cell? (ad.add (k * 4 + j)) = some u := fun j u hj => by
    rw [hb.cell (e _)]
    exact hu j u hj
  have step : ∀ j, 0 < j → ad.add (k * 4 + j) = ⟨(ad.add (k * 4)).block, (ad.add (k * 4)).off + j, none⟩ := fun j hj => by
    rw [← add_add']
    conv => lhs; unfold Addr.add
    rw [if_neg (by omega)]
    rfl
  refine ⟨ad, rfl, e _, go 0 _ rfl, ?_, ?_, ?_, k3, k2, k4, k1⟩
  · rw [← step 1 (by omega)]; exact go 1 _ rfl
  · rw [← step 2 (by omega)]; exact go 2 _ rfl
  · rw [← step 3 (by omega)]; exact go 3 _ rfl
theorem ops_form {w0 : World} {v : Value} {l : List D_permafrostlaw12_Op} (h : SlAt w0.heap.size w0 (R_permafrostlaw12_Op w0.heap.size w0) 4 [v] l) : ∃ A c, v = .slice A l.length c := by
  obtain ⟨A, n, c, e, rfl, _⟩ := h
  simp only [List.cons.injEq, and_true] at e
  exact ⟨A, c, e⟩
/-- behind the first k touches -/
def scrL (l : List D_permafrostlaw12_Op) : Nat → List Cn
  | 0 => []
  | k + 1 => match l[k]? with | some o => touchL (scrL l k) o.key o.now | none => scrL l k
theorem scrL_succ {l : List D_permafrostlaw12_Op} {k : Nat} (hk : k < l.length) : scrL l (k + 1) = touchL (scrL l k) l[k].key l[k].now := by
  rw [scrL, List.getElem?_eq_getElem hk]
theorem heat_nodup {w : World} {g b : Nat} {L : List Cn} (h : HeatAt w g b L) : (L.map Cn.key).Nodup := by
  obtain ⟨_, D, _, hR⟩ := h
  exact hR.nodup
theorem heat_ok {w : World} {g b : Nat} {L : List Cn} (h : HeatAt w g b L) : ∀ c ∈ L, c.ok := by
  obtain ⟨_, D, _, hR⟩ := h
  exact hR.ok

/-! values -/
theorem fnd_touch (L : List Cn) (k : List UInt8) (now : Int) : fnd (touchL L k now) k = some (touched L k now) := by
  unfold fnd touchL
  rw [List.find?_append]
  have h1 : (without L k).find? (fun c => c.key == k) = none := by
    rw [List.find?_eq_none]
    intro c hc
    simpa using (without_mem.1 hc).2
  rw [h1]
  simp [touched_key]
theorem fnd_without_ne (L : List Cn) {k k' : List UInt8} (h : k' ≠ k) : fnd (without L k) k' = fnd L k' := by
  unfold fnd without
  induction L with
  | nil => rfl
  | cons c L ih =>
    rw [List.filter_cons, List.find?_cons]
    by_cases h1 : c.key = k
    · have h2 : (c.key == k') = false := by rw [h1]; simp [Ne.symm h]
      have h3 : (c.key != k) = false := by simp [h1]
      rw [h2, h3]
      simpa using ih
    · simp only [bne_iff_ne, ne_eq, h1, not_false_eq_true, if_true, List.find?_cons, ih]
theorem fnd_without_same (L : List Cn) (k : List UInt8) : fnd (without L k) k = none := by
  unfold fnd
  rw [List.find?_eq_none]
  intro c hc
  simpa using (without_mem.1 hc).2
def TickLe (now : Int) (L : List Cn) : Prop := ∀ c ∈ L, c.tick ≤ now
theorem tick_touch {L : List Cn} {now : Int} (h : TickLe now L) (k : List UInt8) {t : Int} (ht : t ≤ now) : TickLe now (touchL L k t) := by
  intro c hc
  rcases List.mem_append.1 hc with hc | hc
  · exact h c (without_mem.1 hc).1
  · obtain rfl : c = touched L k t := by simpa using hc
    unfold touched
    cases hf : fnd L k with
    | some d =>
      have := h d (fnd_some hf).1
      show max t d.tick ≤ now
      omega
    | none => exact ht
theorem half_step (n : Int) (d : Nat) (h : 0 ≤ n) : n / 2 ^ (d + 1) = n / 2 ^ d / 2 := by
  rw [Int.pow_succ, Int.ediv_ediv_of_nonneg (Int.le_of_lt (by exact_mod_cast Nat.pow_pos (by decide : 0 < 2)))]
theorem worth_fades (n t now : Int) (h0 : 0 ≤ n) (h1 : n ≤ 1048576) (ht : t ≤ now) : worthH n t (now + 1) = worthH n t now / 2 := by
  obtain ⟨d, hd⟩ : ∃ d : Nat, now - t = d := ⟨(now - t).toNat, by omega⟩
  have e1 : now + 1 - t = ((d + 1 : Nat) : Int) := by omega
  unfold worthH
  rw [if_neg (by omega : ¬ now + 1 ≤ t), e1]
  by_cases hz : now ≤ t
  · have : d = 0 := by omega
    subst this
    rw [if_pos hz, if_pos (by omega)]
    rfl
  · rw [if_neg hz, hd]
    by_cases h30 : d + 1 < 30
    · rw [if_pos (by omega), if_pos (by omega)]
      simp only [Int.toNat_natCast]
      exact half_step n d h0
    · rw [if_neg (by omega)]
      by_cases h29 : d < 30
      · have : d = 29 := by omega
        subst this
        rw [if_pos (by omega)]
        have e : (((29 : Nat) : Int)).toNat = 29 := rfl
        rw [e, ← half_step n 29 h0]
        have e3 : (2 : Int) ^ (29 + 1) = 1073741824 := by decide
        rw [e3]
        exact (Int.ediv_eq_zero_of_lt h0 (by omega)).symm
      · have h31 : ¬ ((d : Int) < 30) := by omega
        rw [if_neg h31]; rfl
theorem val_fades {L : List Cn} (hL : ∀ c ∈ L, c.ok) {now : Int} (ht : TickLe now L) (k : List UInt8) : valL L k (now + 1) = valL L k now / 2 := by
  unfold valL
  cases hf : fnd L k with
  | some c =>
    obtain ⟨hc, _⟩ := fnd_some hf
    obtain ⟨h1, h2, _⟩ := hL c hc
    exact worth_fades c.n c.tick now h1 h2 (ht c hc)
  | none => rfl
theorem val_lo {L : List Cn} (hL : ∀ c ∈ L, c.ok) (k : List UInt8) (now : Int) : 0 ≤ valL L k now ∧ valL L k now ≤ 1048576 := by
  unfold valL
  cases hf : fnd L k with
  | some c =>
    obtain ⟨hc, _⟩ := fnd_some hf
    obtain ⟨h1, h2, _⟩ := hL c hc
    have := worthH_hi c.n c.tick now h1
    exact ⟨worthH_lo _ _ _ h1, by show worthH c.n c.tick now ≤ 1048576; omega⟩
  | none => exact ⟨Int.le_refl _, by show (0 : Int) ≤ 1048576; decide⟩
theorem val_touched {L : List Cn} {now : Int} (ht : TickLe now L) (k : List UInt8) : valL (touchL L k now) k now = min (valL L k now + 16) 1048576 := by
  unfold valL
  rw [fnd_touch]
  unfold touched
  cases hf : fnd L k with
  | some c =>
    have := ht c (fnd_some hf).1
    show worthH (min (worthH c.n c.tick now + 16) 1048576) (max now c.tick) now = min (worthH c.n c.tick now + 16) 1048576
    unfold worthH
    rw [if_pos (by omega : now ≤ max now c.tick)]
  | none =>
    show worthH 16 now now = _
    unfold worthH
    rw [if_pos (Int.le_refl _)]
    rfl
theorem val_without_ne (L : List Cn) {k k' : List UInt8} (h : k' ≠ k) (now : Int) : valL (without L k) k' now = valL L k' now := by
  unfold valL
  rw [fnd_without_ne L h]
theorem val_without_same (L : List Cn) (k : List UInt8) (now : Int) : valL (without L k) k now = 0 := by
  unfold valL
  rw [fnd_without_same]
end Go.Proofs.Ytefobchpcdniiaa
