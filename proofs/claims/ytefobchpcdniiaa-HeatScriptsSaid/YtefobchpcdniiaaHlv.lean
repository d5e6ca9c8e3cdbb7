/- Package heat: the items that are worth anything; what a range over the map has left. -/
import Derived.Test.YtefobchpcdniiaaHea
namespace Go.Proofs.Ytefobchpcdniiaa
open Go Go.RowKit Go.Maps
set_option linter.unusedSimpArgs false
set_option linter.unnecessarySimpa false
set_option linter.unusedVariables false

def itOf (now : Int) (c : Cn) : It := ⟨c.key, worthH c.n c.tick now⟩
def liveL (now : Int) (L : List Cn) : List It := (L.map (itOf now)).filter fun i => decide (0 < i.w)
theorem liveL_perm {now : Int} {L L' : List Cn} (h : L.Perm L') : (liveL now L).Perm (liveL now L') := (h.map _).filter _
theorem liveL_cons (now : Int) (c : Cn) (L : List Cn) : liveL now (c :: L) = if 0 < worthH c.n c.tick now then itOf now c :: liveL now L else liveL now L := by
  unfold liveL
  rw [List.map_cons, List.filter_cons]
  by_cases h : 0 < worthH c.n c.tick now
  · simp [itOf, h]
  · simp [itOf, h]
/-- the hottest keys, at most n -/
def hotL (L : List Cn) (now n : Int) : List (List UInt8) := ((sortI (liveL now L)).take n.toNat).map It.key
theorem same_kL (a b : List UInt8) : (kL a).sameKey (kL b) = decide (a = b) := by
  by_cases e : a = b
  · subst e
    rw [WideAt.sameKey_self (kL_key a)]
    simp
  · rw [sameKey_ne (fun h => e (kL_inj h))]
    simp [e]
theorem left_step (left : Lit → Bool) {c : Cn} (hl : left (kL c.key) = true) : ∀ {L : List Cn}, (L.map Cn.key).Nodup → c ∈ L →
    (L.filter fun d => !(left (kL d.key) && !(kL d.key).sameKey (kL c.key))).Perm (c :: L.filter fun d => !left (kL d.key))
  | d :: L, hn, hc => by
    simp only [List.map_cons, List.nodup_cons] at hn
    rcases List.mem_cons.1 hc with rfl | hc
    · have e : (L.filter fun d => !(left (kL d.key) && !(kL d.key).sameKey (kL c.key))) = L.filter fun d => !left (kL d.key) := by
        refine List.filter_congr fun x hx => ?_
        have hne : x.key ≠ c.key := fun e => hn.1 (by rw [← e]; exact List.mem_map_of_mem hx)
        rw [same_kL]
        simp [hne]
      rw [List.filter_cons, List.filter_cons, same_kL, e]
      simp [hl]
    · have hne : d.key ≠ c.key := fun e => hn.1 (by rw [e]; exact List.mem_map_of_mem hc)
      have ih := left_step left hl hn.2 hc
      rw [List.filter_cons, List.filter_cons, same_kL]
      simp only [hne, decide_false, Bool.not_false, Bool.and_true]
      cases hd : left (kL d.key)
      · simp only [Bool.not_false, if_true]
        exact (ih.cons d).trans (List.Perm.swap c d _)
      · simp only [Bool.not_true, Bool.false_eq_true, if_false]
        exact ih
theorem left_all {left : Lit → Bool} (h : ∀ kl, left kl = false) (L : List Cn) : (L.filter fun d => !left (kL d.key)) = L := by simp [h]
theorem left_none {D : DataW Unit} {L : List Cn} (h : Reps D L) : (L.filter fun d => !Maps.has D (kL d.key)) = [] := by
  rw [List.filter_eq_nil_iff]
  intro c hc
  simp [(h.is c hc).1]
theorem key_inv (key : Value) (kl : Lit) (h : keyOf Try.prog 9 key = some kl) : ∃ x : List UInt8, key = .string (bstr x) := by
  rw [keyOf_string Try.underlying9] at h
  cases key with
  | string s => exact ⟨s.data.toList, by simp [bstr]⟩
  | _ => simp [mapKey, Try.underlying9] at h
theorem key_len (x : List UInt8) (kl : Lit) (h : keyOf Try.prog 9 (.string (bstr x)) = some kl) : kl = kL x ∧ x.length ≤ maxLen := by
  rw [keyOf_string Try.underlying9] at h
  simp [mapKey, Try.underlying9, bstr, ByteArray.size] at h
  exact ⟨h.2.symm, h.1⟩
end Go.Proofs.Ytefobchpcdniiaa
