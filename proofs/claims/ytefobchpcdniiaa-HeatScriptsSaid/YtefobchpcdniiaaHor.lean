/- HeatOrder: plain part, and its walk. -/
import Derived.Test.YtefobchpcdniiaaHls
namespace Go.Proofs.Ytefobchpcdniiaa
open Go Go.RowKit Go.Maps
set_option linter.unusedSimpArgs false
set_option linter.unnecessarySimpa false
set_option linter.unusedVariables false

def allL (now : Int) (ts : List (List UInt8)) : List Cn := ts.foldl (fun L k => touchL L k now) []
theorem allL_snoc (now : Int) (ts : List (List UInt8)) (k : List UInt8) : allL now (ts ++ [k]) = touchL (allL now ts) k now := by
  unfold allL
  rw [List.foldl_append]
  rfl
theorem touch_nodup {L : List Cn} (h : (L.map Cn.key).Nodup) (k : List UInt8) (now : Int) : ((touchL L k now).map Cn.key).Nodup := by
  unfold touchL
  rw [List.map_append, List.nodup_append]
  refine ⟨without_nodup _ h, by simp, ?_⟩
  intro a ha b hb e
  simp at hb
  subst hb
  subst e
  rw [touched_key] at ha
  exact (without_keys.1 ha).2 rfl
theorem fnd_touch_ne (L : List Cn) {k k' : List UInt8} (h : k' ≠ k) (now : Int) : fnd (touchL L k now) k' = fnd L k' := by
  have h1 := fnd_without_ne L h
  unfold fnd at h1 ⊢
  unfold touchL
  rw [List.find?_append, h1]
  have h2 : [touched L k now].find? (fun c => c.key == k') = none := by
    simp [touched_key, Ne.symm h]
  rw [h2]
  simp
/-- so often each key was touched -/
def Times (now : Int) (L : List Cn) (m : List UInt8 → Nat) : Prop := ∀ k, fnd L k = if m k = 0 then none else some ⟨k, 16 * m k, now⟩
theorem times_touch {now : Int} {L : List Cn} {m : List UInt8 → Nat} (h : Times now L m) (k : List UInt8) (hm : m k ≤ 60000) : Times now (touchL L k now) (fun j => m j + if j = k then 1 else 0) := by
  intro j
  by_cases e : j = k
  · subst e
    rw [fnd_touch]
    have hj := h j
    unfold touched
    by_cases h0 : m j = 0
    · rw [if_pos h0] at hj
      rw [hj]
      simp [h0]
    · rw [if_neg h0] at hj
      rw [hj]
      have hw : worthH (16 * (m j : Int)) now now = 16 * (m j : Int) := by unfold worthH; rw [if_pos (Int.le_refl _)]
      simp only [hw, if_true, Int.max_self]
      rw [if_neg (by omega)]
      have : min (16 * (m j : Int) + 16) 1048576 = 16 * ((m j + 1 : Nat) : Int) := by omega
      rw [this]
  · rw [fnd_touch_ne L e, h j]
    simp [e]
theorem times_all (now : Int) : ∀ (ts : List (List UInt8)) (L : List Cn) (m : List UInt8 → Nat), Times now L m → (∀ k, m k + ts.length ≤ 60000) → Times now (ts.foldl (fun L k => touchL L k now) L) (fun k => m k + ts.count k)
  | [], L, m, h, _ => by simpa using h
  | t :: ts, L, m, h, hm => by
    have h1 := times_touch h t (by have := hm t; simp at this; omega)
    have h2 := times_all now ts _ _ h1 (fun k => by have := hm k; simp at this ⊢; split <;> omega)
    intro j
    have h3 := h2 j
    simp only at h3
    have e : m j + (if j = t then 1 else 0) + ts.count j = m j + (t :: ts).count j := by
      rw [List.count_cons]
      by_cases e : j = t
      · subst e; simp; omega
      · simp [e, Ne.symm e]
    rw [e] at h3
    exact h3
theorem all_nodup (now : Int) : ∀ (ts : List (List UInt8)) (L : List Cn), (L.map Cn.key).Nodup → ((ts.foldl (fun L k => touchL L k now) L).map Cn.key).Nodup
  | [], _, h => h
  | t :: ts, _, h => all_nodup now ts _ (touch_nodup h t now)
theorem mem_fnd {L : List Cn} (h : (L.map Cn.key).Nodup) (c : Cn) : c ∈ L ↔ fnd L c.key = some c := by
  constructor
  · intro hc
    induction L with
    | nil => cases hc
    | cons d L ih =>
      simp only [List.map_cons, List.nodup_cons] at h
      unfold fnd
      rw [List.find?_cons]
      rcases List.mem_cons.1 hc with rfl | hc
      · simp
      · have hne : d.key ≠ c.key := fun e => h.1 (by rw [e]; exact List.mem_map_of_mem hc)
        have : (d.key == c.key) = false := by simp [hne]
        rw [this]
        exact ih h.2 hc
  · intro hf
    exact (fnd_some hf).1
theorem keys_nodup {L : List Cn} (h : (L.map Cn.key).Nodup) : L.Nodup := by
  induction L with
  | nil => exact List.nodup_nil
  | cons d L ih =>
    simp only [List.map_cons, List.nodup_cons] at h
    exact List.nodup_cons.2 ⟨fun hd => h.1 (List.mem_map_of_mem hd), ih h.2⟩
theorem perm_of_fnd {L L' : List Cn} (h : (L.map Cn.key).Nodup) (h' : (L'.map Cn.key).Nodup) (hf : ∀ k, fnd L k = fnd L' k) : L.Perm L' := by
  rw [List.perm_ext_iff_of_nodup (keys_nodup h) (keys_nodup h')]
  intro c
  rw [mem_fnd h, mem_fnd h', hf]
theorem hot_perm {L L' : List Cn} (h : L.Perm L') (now n : Int) : hotL L now n = hotL L' now n := by
  have e : sortI (liveL now L) = sortI (liveL now L') :=
    srt_eq (sortI_srt _) (sortI_srt _) ((sortI_perm _).trans ((liveL_perm h).trans (sortI_perm _).symm))
  unfold hotL
  rw [e]
theorem all_perm (now : Int) {ts ts' : List (List UInt8)} (h : ts.Perm ts') (hl : ts.length ≤ 40) : (allL now ts).Perm (allL now ts') := by
  have h0 : Times now [] (fun _ => 0) := fun k => rfl
  have h1 := times_all now ts [] _ h0 (fun k => by omega)
  have h2 := times_all now ts' [] _ h0 (fun k => by have := h.length_eq; omega)
  refine perm_of_fnd (all_nodup now ts [] List.nodup_nil) (all_nodup now ts' [] List.nodup_nil) (fun k => ?_)
  unfold allL
  rw [h1 k, h2 k]
  simp only [h.count_eq k]
/-- turned by r places -/
def rotL (l : List (List UInt8)) (r : Nat) : List (List UInt8) := l.drop r ++ l.take r
theorem rot_perm (l : List (List UInt8)) (r : Nat) : l.Perm (rotL l r) := by
  have : (l.take r ++ l.drop r).Perm (l.drop r ++ l.take r) := List.perm_append_comm
  rwa [List.take_append_drop] at this
theorem rot_get (l : List (List UInt8)) (r k : Nat) (hr : r < l.length) (hk : k < l.length) : (rotL l r)[k]? = some (l[(k + r) % l.length]'(Nat.mod_lt _ (by omega))) := by
  unfold rotL
  rw [List.getElem?_append, List.length_drop]
  by_cases h : k < l.length - r
  · have e : (k + r) % l.length = r + k := by rw [Nat.mod_eq_of_lt (by omega)]; omega
    rw [if_pos h, List.getElem?_drop]
    simp only [e]
    exact List.getElem?_eq_getElem (by omega)
  · have e : (k + r) % l.length = k - (l.length - r) := by
      have : k + r = (k - (l.length - r)) + l.length := by omega
      rw [this, Nat.add_mod_right, Nat.mod_eq_of_lt (by omega)]
    rw [if_neg h, List.getElem?_take_of_lt (by omega)]
    simp only [e]
    exact List.getElem?_eq_getElem (by omega)
theorem str_cells {w0 w : World} {A : Option Addr} {n c : Nat} {l : List (List UInt8)} (h : SlAt w0.heap.size w0 IsStr 1 [.slice A n c] l) (hb : Below w0.heap.size w0 w) (k : Nat) (hk : k < l.length) :
    ∃ ad, A = some ad ∧ w.cell? (ad.add k) = some (.string (bstr l[k])) ∧ l[k].length ≤ maxLen := by
  obtain ⟨A', n', c', e, rfl, hc, hm, hx⟩ := h
  simp at e
  obtain ⟨rfl, rfl, rfl⟩ := e
  obtain ⟨ad, rfl, had, hcell⟩ := hx (by omega)
  obtain ⟨es, hl, ⟨rfl, k1⟩, hu⟩ := hcell k l[k] (List.getElem?_eq_getElem hk)
  have e : (ad.add k).block < w0.heap.size := by unfold Addr.add; split <;> exact had
  have := hu 0 _ rfl
  simp at this
  exact ⟨ad, rfl, by rw [hb.cell e]; exact this, k1⟩
theorem strs_form {w0 : World} {v : Value} {l : List (List UInt8)} (h : SlAt w0.heap.size w0 IsStr 1 [v] l) : ∃ A c, v = .slice A l.length c := by
  obtain ⟨A, n, c, e, rfl, _⟩ := h
  simp only [List.cons.injEq, and_true] at e
  exact ⟨A, c, e⟩
end Go.Proofs.Ytefobchpcdniiaa
