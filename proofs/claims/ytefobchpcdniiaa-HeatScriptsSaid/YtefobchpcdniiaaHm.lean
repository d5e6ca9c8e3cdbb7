/- Package heat: the map of counts as a list. -/
import Derived.Test.YtefobchpcdniiaaHt
import Derived.Test.YtefobchpcdniiaaOwn
import Derived.Maps.OwnSet
import Derived.Maps.RangeWalk
namespace Go.Proofs.Ytefobchpcdniiaa
open Go Go.RowKit Go.Maps
set_option linter.unusedSimpArgs false
set_option linter.unnecessarySimpa false
set_option linter.unusedVariables false

/-- a key's count -/
structure Cn where
  key : List UInt8
  n : Int
  tick : Int
def Cn.ok (c : Cn) : Prop := 0 ≤ c.n ∧ c.n ≤ 1048576 ∧ (Lit.int .i64 c.tick).wf = true ∧ c.key.length ≤ maxLen
def cntV (n t : Int) : Value := .agg #[.int .i64 n, .int .i64 t]
def cntD (n t : Int) : DataW Unit := .agg [.lit (.int .i64 n), .lit (.int .i64 t)]
/-- how a count reads -/
def cntR (v : Value) : Option (DataW Unit × List MemPlace) :=
  match v with
  | .agg cs => match cs.toList with
    | [.int .i64 n, .int .i64 t] => if 0 ≤ n ∧ n ≤ 1048576 ∧ (Lit.int .i64 t).wf = true then some (cntD n t, []) else none
    | _ => none
  | _ => none
theorem cntR_mk {n t : Int} (h : 0 ≤ n ∧ n ≤ 1048576 ∧ (Lit.int .i64 t).wf = true) : cntR (cntV n t) = some (cntD n t, []) := by simp [cntR, cntV, h]
theorem cntR_inv {v : Value} {z : DataW Unit × List MemPlace} (h : cntR v = some z) : ∃ n t, v = cntV n t ∧ z = (cntD n t, []) ∧ 0 ≤ n ∧ n ≤ 1048576 ∧ (Lit.int .i64 t).wf = true := by
  unfold cntR at h
  split at h
  · rename_i cs
    split at h
    · rename_i n t hc
      split at h
      · rename_i hh
        have hcs : cs = #[.int .i64 n, .int .i64 t] := by rw [← Array.toList_inj]; exact hc
        cases h
        exact ⟨n, t, by rw [hcs]; rfl, rfl, hh⟩
      · cases h
    · cases h
  · cases h
theorem cntD_inj {n t n' t' : Int} (h : cntD n t = cntD n' t') : n = n' ∧ t = t' := by
  simp only [cntD, DataW.agg.injEq, List.cons.injEq, DataW.lit.injEq, Lit.int.injEq, true_and, and_true] at h
  exact h
/-- a key as a datum -/
def kL (k : List UInt8) : Lit := .string k
theorem kL_key (k : List UInt8) : WideAt.IsKeyLit (kL k) := trivial
theorem kL_inj {k k' : List UInt8} (h : kL k = kL k') : k = k' := by simpa [kL] using h

/-- the map reads as this list -/
structure Reps (D : DataW Unit) (L : List Cn) : Prop where
  tidy : Tidy D
  size : Maps.size D = L.length
  nodup : (L.map Cn.key).Nodup
  is : ∀ c ∈ L, Maps.has D (kL c.key) = true ∧ ∀ z, D.atKey (kL c.key) z = cntD c.n c.tick
  no : ∀ k, k ∉ L.map Cn.key → Maps.has D (kL k) = false
  ok : ∀ c ∈ L, c.ok
def without (L : List Cn) (k : List UInt8) : List Cn := L.filter fun c => c.key != k
theorem without_mem {L : List Cn} {k : List UInt8} {c : Cn} : c ∈ without L k ↔ c ∈ L ∧ c.key ≠ k := by simp [without]
theorem without_keys {L : List Cn} {k k' : List UInt8} : k' ∈ (without L k).map Cn.key ↔ k' ∈ L.map Cn.key ∧ k' ≠ k := by
  simp only [List.mem_map, without_mem]
  constructor
  · rintro ⟨c, ⟨h1, h2⟩, rfl⟩; exact ⟨⟨c, h1, rfl⟩, h2⟩
  · rintro ⟨⟨c, h1, rfl⟩, h2⟩; exact ⟨c, ⟨h1, h2⟩, rfl⟩
theorem without_nodup {L : List Cn} (k : List UInt8) (h : (L.map Cn.key).Nodup) : ((without L k).map Cn.key).Nodup := h.sublist (List.Sublist.map _ List.filter_sublist)
theorem without_len {L : List Cn} {k : List UInt8} (h : (L.map Cn.key).Nodup) : (without L k).length + (if k ∈ L.map Cn.key then 1 else 0) = L.length := by
  induction L with
  | nil => rfl
  | cons c L ih =>
    simp only [List.map_cons, List.nodup_cons] at h
    have ih := ih h.2
    by_cases hc : c.key = k
    · subst hc
      have hn : c.key ∉ L.map Cn.key := h.1
      rw [if_neg hn] at ih
      have e : without (c :: L) c.key = without L c.key := by simp [without]
      rw [e, if_pos (by simp)]
      simp only [List.length_cons]
      omega
    · have e : without (c :: L) k = c :: without L k := by simp [without, hc]
      rw [e]
      simp only [List.map_cons, List.mem_cons, List.length_cons]
      have hc' : ¬ k = c.key := fun h => hc h.symm
      simp only [hc', false_or]
      omega
theorem reps_nil : Reps (.map []) [] := ⟨tidy_empty, rfl, List.nodup_nil, by simp, by intro k _; rfl, by simp⟩
theorem Reps.del {D : DataW Unit} {L : List Cn} (h : Reps D L) (k : List UInt8) : Reps (D.del (kL k)) (without L k) := by
  refine ⟨h.tidy.del _, ?_, without_nodup k h.nodup, ?_, ?_, fun c hc => h.ok c (without_mem.1 hc).1⟩
  · have h1 := size_del (k := kL k) h.tidy
    have h2 := without_len (k := k) h.nodup
    by_cases hk : k ∈ L.map Cn.key
    · obtain ⟨c, hc, rfl⟩ := List.mem_map.1 hk
      rw [(h.is c hc).1] at h1
      rw [if_pos hk] at h2
      have := h.size
      simp at h1
      omega
    · rw [h.no k hk] at h1
      rw [if_neg hk] at h2
      have := h.size
      simp at h1
      omega
  · intro c hc
    obtain ⟨h1, h2⟩ := without_mem.1 hc
    have hne : kL c.key ≠ kL k := fun e => h2 (kL_inj e)
    exact ⟨by rw [has_del_other hne]; exact (h.is c h1).1, fun z => by rw [atKey_del_other hne]; exact (h.is c h1).2 z⟩
  · intro k' hk'
    by_cases e : k' = k
    · subst e; exact has_del_same
    · have hne : kL k' ≠ kL k := fun e' => e (kL_inj e')
      rw [has_del_other hne]
      exact h.no k' (fun hm => hk' (without_keys.2 ⟨hm, e⟩))
theorem Reps.put {D : DataW Unit} {L : List Cn} (h : Reps D L) (c : Cn) (hc : c.ok) : Reps (D.put (kL c.key) (cntD c.n c.tick)) (without L c.key ++ [c]) := by
  have hm := h.tidy.isMap
  refine ⟨h.tidy.put (kL_key _) _, ?_, ?_, ?_, ?_, ?_⟩
  · have h1 := size_put (k := kL c.key) h.tidy (cntD c.n c.tick)
    have h2 := without_len (k := c.key) h.nodup
    have := h.size
    rw [List.length_append, List.length_singleton]
    by_cases hk : c.key ∈ L.map Cn.key
    · obtain ⟨c', hc', e⟩ := List.mem_map.1 hk
      have := (h.is c' hc').1
      rw [e] at this
      rw [this] at h1
      rw [if_pos hk] at h2
      simp at h1
      omega
    · rw [h.no _ hk] at h1
      rw [if_neg hk] at h2
      simp at h1
      omega
  · rw [List.map_append, List.nodup_append]
    refine ⟨without_nodup _ h.nodup, by simp, ?_⟩
    intro a ha b hb e
    simp at hb
    subst hb
    subst e
    exact (without_keys.1 ha).2 rfl
  · intro c' hc'
    rcases List.mem_append.1 hc' with hc' | hc'
    · obtain ⟨h1, h2⟩ := without_mem.1 hc'
      have hne : kL c'.key ≠ kL c.key := fun e => h2 (kL_inj e)
      exact ⟨by rw [has_put_other hne]; exact (h.is c' h1).1, fun z => by rw [atKey_put_other hne]; exact (h.is c' h1).2 z⟩
    · obtain rfl : c' = c := by simpa using hc'
      exact ⟨has_put_same hm (kL_key _) _, fun z => atKey_put_same hm (kL_key _) _ z⟩
  · intro k' hk'
    rw [List.map_append] at hk'
    have e : k' ≠ c.key := fun e => hk' (by rw [e]; simp)
    have hne : kL k' ≠ kL c.key := fun e' => e (kL_inj e')
    rw [has_put_other hne]
    exact h.no k' (fun hm => hk' (List.mem_append_left _ (without_keys.2 ⟨hm, e⟩)))
  · intro c' hc'
    rcases List.mem_append.1 hc' with hc' | hc'
    · exact h.ok c' (without_mem.1 hc').1
    · obtain rfl : c' = c := by simpa using hc'
      exact hc
def fnd (L : List Cn) (k : List UInt8) : Option Cn := L.find? fun c => c.key == k
theorem fnd_some {L : List Cn} {k : List UInt8} {c : Cn} (h : fnd L k = some c) : c ∈ L ∧ c.key = k := by
  unfold fnd at h
  exact ⟨List.mem_of_find?_eq_some h, by simpa using List.find?_some h⟩
theorem fnd_none {L : List Cn} {k : List UInt8} (h : fnd L k = none) : k ∉ L.map Cn.key := by
  unfold fnd at h
  rw [List.find?_eq_none] at h
  intro hm
  obtain ⟨c, hc, rfl⟩ := List.mem_map.1 hm
  exact h c hc (by simp)
/-- what a key is worth -/
def valL (L : List Cn) (k : List UInt8) (now : Int) : Int := match fnd L k with
  | some c => worthH c.n c.tick now
  | none => 0
def touched (L : List Cn) (k : List UInt8) (now : Int) : Cn := match fnd L k with
  | some c => ⟨k, min (worthH c.n c.tick now + 16) 1048576, max now c.tick⟩
  | none => ⟨k, 16, now⟩
def touchL (L : List Cn) (k : List UInt8) (now : Int) : List Cn := without L k ++ [touched L k now]
end Go.Proofs.Ytefobchpcdniiaa
