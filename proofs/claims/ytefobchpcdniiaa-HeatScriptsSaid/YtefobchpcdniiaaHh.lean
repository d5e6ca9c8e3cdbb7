/- HeatHot: plain part. -/
import Derived.Test.YtefobchpcdniiaaHor
namespace Go.Proofs.Ytefobchpcdniiaa
open Go Go.RowKit Go.Maps
set_option linter.unusedSimpArgs false
set_option linter.unnecessarySimpa false
set_option linter.unusedVariables false

theorem less_cmp : ∀ a b : List UInt8, Op.bytesLess a b = decide (Lib.compareBytes a b < 0)
  | [], [] => rfl
  | [], _ :: _ => by rw [Lib.compareBytes]; rfl
  | _ :: _, [] => by rw [Lib.compareBytes]; rfl
  | x :: a, y :: b => by
    have ih := less_cmp a b
    rw [Op.bytesLess, Lib.compareBytes, ih]
    by_cases h1 : x < y
    · rw [if_pos h1]; simp [h1]
    · rw [if_neg h1]
      by_cases h2 : y < x
      · have h3 : ¬ x = y := fun e => by subst e; exact UInt8.lt_irrefl _ h2
        rw [if_pos h2]; simp [h1, h3]
      · have h3 : x = y := UInt8.le_antisymm (UInt8.not_lt.1 h2) (UInt8.not_lt.1 h1)
        rw [if_neg h2]; simp [h1, h3]
theorem live_val {L : List Cn} (h : (L.map Cn.key).Nodup) {now : Int} {i : It} (hi : i ∈ liveL now L) : valL L i.key now = i.w ∧ 0 < i.w := by
  unfold liveL at hi
  obtain ⟨h1, h2⟩ := List.mem_filter.1 hi
  obtain ⟨c, hc, rfl⟩ := List.mem_map.1 h1
  refine ⟨?_, by simpa using h2⟩
  unfold valL
  have : fnd L (itOf now c).key = some c := (mem_fnd h c).1 hc
  rw [this]
  rfl
theorem live_keys {L : List Cn} (h : (L.map Cn.key).Nodup) (now : Int) : ((liveL now L).map It.key).Nodup := by
  have h1 : ((L.map (itOf now)).map It.key) = L.map Cn.key := by rw [List.map_map]; rfl
  have h2 : ((liveL now L).map It.key).Sublist ((L.map (itOf now)).map It.key) := List.Sublist.map _ List.filter_sublist
  rw [h1] at h2
  exact h.sublist h2
structure HotIs (L : List Cn) (now : Int) (n : Nat) (l : List It) : Prop where
  keys : hotL L now n = l.map It.key
  len : l.length ≤ n
  val : ∀ i (h : i < l.length), valL L l[i].key now = l[i].w ∧ 0 < l[i].w
  ord : ∀ i (h : i + 1 < l.length), l[i + 1].w ≤ l[i].w ∧ (l[i].w = l[i + 1].w → Op.bytesLess l[i].key l[i + 1].key = true)
  all : ∀ k, 0 < valL L k now → k ∉ l.map It.key → l.length = n ∧ ∀ (h : 0 < l.length), valL L k now ≤ (l[l.length - 1]).w
theorem hot_is {L : List Cn} (h : (L.map Cn.key).Nodup) (now : Int) (n : Nat) : ∃ l, HotIs L now n l := by
  have hs := sortI_srt (liveL now L)
  have hp := sortI_perm (liveL now L)
  obtain ⟨S, hS⟩ : ∃ S, sortI (liveL now L) = S := ⟨_, rfl⟩
  have hk : hotL L now n = (S.take n).map It.key := by unfold hotL; rw [hS]; rfl
  rw [hS] at hs hp
  have hnd : (S.map It.key).Nodup := (hp.map It.key).nodup_iff.2 (live_keys h now)
  have hv : ∀ i ∈ S, valL L i.key now = i.w ∧ 0 < i.w := fun i hi => live_val h (hp.mem_iff.1 hi)
  have hlen : (S.take n).length ≤ n := by rw [List.length_take]; omega
  refine ⟨S.take n, hk, hlen, fun i hi => hv _ (List.mem_of_mem_take (List.getElem_mem hi)), fun i hi => ?_, fun k hk0 hkn => ?_⟩
  · have hi2 : i + 1 < S.length := by rw [List.length_take] at hi; omega
    have e0 : (S.take n)[i] = S[i] := List.getElem_take
    have e1 : (S.take n)[i + 1] = S[i + 1] := List.getElem_take
    rw [e0, e1]
    have hle : leI S[i] S[i + 1] := List.pairwise_iff_getElem.1 hs i (i + 1) (by omega) hi2 (by omega)
    rw [leI_iff] at hle
    have hne : S[i].key ≠ S[i + 1].key := by
      have := List.pairwise_iff_getElem.1 hnd i (i + 1) (by simp; omega) (by simp; omega) (by omega)
      simpa using this
    refine ⟨by omega, fun e => ?_⟩
    rw [less_cmp]
    have hc : Lib.compareBytes S[i].key S[i + 1].key ≠ 0 := fun e0 => hne (cmp_eq0 _ _ e0)
    exact decide_eq_true (by omega)
  · unfold valL at hk0 ⊢
    cases hf : fnd L k with
    | none => rw [hf] at hk0; exact absurd hk0 (by simp)
    | some c =>
      rw [hf] at hk0
      obtain ⟨hc, hck⟩ := fnd_some hf
      simp only at hk0 ⊢
      have hm : itOf now c ∈ S := by
        refine hp.mem_iff.2 ?_
        unfold liveL
        exact List.mem_filter.2 ⟨List.mem_map_of_mem hc, decide_eq_true hk0⟩
      rw [← List.take_append_drop n S] at hm
      rcases List.mem_append.1 hm with hm | hm
      · exact absurd (by rw [← hck]; exact List.mem_map_of_mem (f := It.key) hm) hkn
      · have hdl : 0 < (S.drop n).length := List.length_pos_of_mem hm
        rw [List.length_drop] at hdl
        have hl : (S.take n).length = n := by rw [List.length_take]; omega
        refine ⟨hl, fun h0 => ?_⟩
        have hs2 := hs
        unfold Srt at hs2
        rw [← List.take_append_drop n S, List.pairwise_append] at hs2
        have hle := hs2.2.2 _ (List.getElem_mem (show (S.take n).length - 1 < (S.take n).length by omega)) _ hm
        rw [leI_iff] at hle
        have : (itOf now c).w = worthH c.n c.tick now := rfl
        omega
end Go.Proofs.Ytefobchpcdniiaa
