/- The laws of uber: what live needs: roots that wait, five sectors. -/
import Derived.Test.YtcamcjcmhjldpaaDoorUg
namespace Go.Proofs.YtcamcjcmhjldpaaDoor
open Go Go.RowKit
set_option linter.unusedSimpArgs false
set_option linter.unnecessarySimpa false
set_option linter.unusedVariables false

/-- what is read where a root waits -/
theorem ring_uw {a b : List (List UInt8)} {p : Nat} {s : List UInt8} (ha : 4 ≤ a.length) (hb : 4 ≤ b.length) (hp : p < 4) (hs : s.length ≤ 1024) {k : Nat} (hk : k < 8) : ringD ((clD a b).uw p s) k = if k % 4 = p then s else ringD (clD a b) k := by
  rw [uw_cl (by omega) (by omega) hs]
  have m1 : mayE ⟨a, b, false, false, [⟨⟨0, p⟩, s⟩, ⟨⟨1, p⟩, s⟩]⟩ ⟨(k / 4 : Nat), (k % 4 : Nat)⟩ [] = 0 := by
    refine mayE_cl rfl rfl (by omega) ?_ (by simp)
    simp only [Dv.sec]
    split <;> omega
  have m2 : mayE (clD a b) ⟨(k / 4 : Nat), (k % 4 : Nat)⟩ [] = 0 := by
    refine mayE_cl rfl rfl (by omega) ?_ (by simp)
    simp only [Dv.sec, clD]
    split <;> omega
  unfold ringD Dv.read
  rw [if_pos m1, if_pos m2]
  simp only [Dv.look, List.foldl_cons, List.foldl_nil, clD, Lc.mk.injEq]
  by_cases h : k % 4 = p
  · rw [if_pos h]
    by_cases h4 : k < 4
    · rw [if_neg (by omega), if_pos (by omega)]
    · rw [if_pos (by omega)]
  · rw [if_neg h, if_neg (by omega), if_neg (by omega)]
    rfl
/-- the best root of devices whose ring is alike on both -/
theorem best_cells {d : Dv} {c : Nat → Option Ub} {U : Ub} {p : Nat} (h : ∀ k, k < 8 → (match c (k % 4) with | some u => ringD d k = ubL u ∧ ubE u = 0 | none => (ubD (ringD d k)).2 ≠ 0)) (hp : p < 4) (hc : c p = some U) (hm : U.txg % 4 = (p : Nat)) (hU : ∀ j, j < 4 → ∀ u, c j = some u → u = U ∨ u.txg < U.txg) : bestR d = (U, true) := by
  have h0 := h p (by omega)
  rw [Nat.mod_eq_of_lt hp, hc] at h0
  simp only at h0
  obtain ⟨e1, e2⟩ := h0
  have hpos := (ubE_ok e2).1
  refine bestR_is ?_ hpos
  refine best_is (p := p) (by omega) hpos (by rw [e1]; exact ub_dec_enc e2) (by rw [hm, Nat.mod_eq_of_lt hp]) ?_
  intro j hj u hd _
  have hj2 := h j hj
  cases hcj : c (j % 4) with
  | none =>
    rw [hcj] at hj2
    simp only at hj2
    rw [hd] at hj2
    exact absurd rfl hj2
  | some v =>
    rw [hcj] at hj2
    simp only at hj2
    obtain ⟨f1, f2⟩ := hj2
    rw [f1, ub_dec_enc f2] at hd
    cases hd
    exact hU (j % 4) (by omega) _ hcj
def u6 : Ub := ⟨6, [115, 105, 120]⟩
def u7 : Ub := ⟨7, [115, 101, 118, 101, 110]⟩
def u1 : Ub := ⟨1, []⟩
def bl5 : List (List UInt8) := List.replicate 5 []
def dl1 : Dv := ((Dv.new 5 5).uw 2 (ubL u6)).flush
def dl2 : Dv := dl1.uw 3 (ubL u7)
def dl3 : Dv := dl2.crash []
theorem e6 : ubE u6 = 0 := by decide
theorem e7 : ubE u7 = 0 := by decide
theorem e1u : ubE u1 = 0 := by decide
theorem new55 : Dv.new 5 5 = clD bl5 bl5 := rfl
theorem bl5_get (j : Nat) : bl5.getD j [] = [] := by
  unfold bl5
  rw [List.getD_eq_getElem?_getD, List.getElem?_replicate]
  split <;> rfl
theorem dl1_eq : dl1 = clD (bl5.set 2 (ubL u6)) (bl5.set 2 (ubL u6)) := by unfold dl1; rw [new55, uw_flush (by decide) (by decide) (ubL_small e6)]
theorem dl3_eq : dl3 = dl1 := by
  unfold dl3 dl2
  rw [dl1_eq, uw_crash (by simp [bl5]) (by simp [bl5]) (ubL_small e7)]
  rfl
theorem ring5 {a : List (List UInt8)} (ha : a.length = 5) {k : Nat} (hk : k < 8) : ringD (clD a a) k = a.getD (k % 4) [] := by
  by_cases h : k < 4
  · rw [ring_cl0 (by omega) h, Nat.mod_eq_of_lt h]
  · rw [ring_cl1 (by omega) (by omega) hk, show k % 4 = k - 4 by omega]
theorem best0 : bestR (Dv.new 5 5) = (zUb, false) := by
  refine bestR_none (best_none 8 (fun j hj => ?_))
  rw [new55, ring5 rfl hj, bl5_get]
  decide
theorem ring1 {k : Nat} (hk : k < 8) : ringD dl1 k = if k % 4 = 2 then ubL u6 else [] := by
  rw [dl1_eq, ring5 (by simp [bl5]) hk, getD_set (by simp [bl5]), bl5_get]
  by_cases h : 2 = k % 4
  · rw [if_pos h, if_pos h.symm]
  · rw [if_neg h, if_neg (fun e => h e.symm)]
theorem best1 : bestR dl1 = (u6, true) := by
  refine best_cells (c := fun j => if j = 2 then some u6 else none) (p := 2) (fun k hk => ?_) (by decide) rfl (by decide) ?_
  · rw [ring1 hk]
    by_cases h : k % 4 = 2
    · simp only [h, if_true]; exact ⟨trivial, e6⟩
    · simp only [if_neg h]; decide
  · intro j hj u hu
    by_cases h : j = 2
    · simp only [h, if_true, Option.some.injEq] at hu; exact .inl hu.symm
    · simp only [if_neg h] at hu; cases hu
theorem best3 : bestR dl3 = (u6, true) := by rw [dl3_eq]; exact best1
theorem ring2 {k : Nat} (hk : k < 8) : ringD dl2 k = if k % 4 = 3 then ubL u7 else if k % 4 = 2 then ubL u6 else [] := by
  have := ring1 hk
  unfold dl2
  rw [dl1_eq] at this ⊢
  rw [ring_uw (by simp [bl5]) (by simp [bl5]) (by decide) (ubL_small e7) hk, this]
theorem best2 : bestR dl2 = (u7, true) := by
  refine best_cells (c := fun j => if j = 3 then some u7 else if j = 2 then some u6 else none) (p := 3) (fun k hk => ?_) (by decide) rfl (by decide) ?_
  · rw [ring2 hk]
    by_cases h : k % 4 = 3
    · simp only [h, if_true]; exact ⟨trivial, e7⟩
    · by_cases h2 : k % 4 = 2
      · simp only [h2, if_true]
        rw [if_neg (by decide), if_neg (by decide)]
        exact ⟨rfl, e6⟩
      · simp only [if_neg h, if_neg h2]; decide
  · intro j hj u hu
    by_cases h : j = 3
    · simp only [h, if_true, Option.some.injEq] at hu; exact .inl hu.symm
    · by_cases h2 : j = 2
      · subst h2
        simp only [if_neg (show ¬ (2 : Nat) = 3 by decide), if_true, Option.some.injEq] at hu
        rw [← hu]; right; decide
      · simp only [if_neg h, if_neg h2] at hu; cases hu
theorem ring_len {d : Dv} (h : ∀ k, k < 8 → ringD d k = [] ∨ ∃ u, ubE u = 0 ∧ ringD d k = ubL u) : ∀ k, k < 8 → (ringD d k).length ≤ 140737488351232 := by
  intro k hk
  rcases h k hk with e | ⟨u, hE, e⟩
  · rw [e]; simp
  · rw [e]; have := ubL_small hE; omega
theorem len0 : ∀ k, k < 8 → (ringD (Dv.new 5 5) k).length ≤ 140737488351232 := ring_len fun k hk => .inl (by rw [new55, ring5 rfl hk, bl5_get])
theorem len1 : ∀ k, k < 8 → (ringD dl1 k).length ≤ 140737488351232 := ring_len fun k hk => by
  rw [ring1 hk]
  split
  · exact .inr ⟨u6, e6, rfl⟩
  · exact .inl rfl
theorem len2 : ∀ k, k < 8 → (ringD dl2 k).length ≤ 140737488351232 := ring_len fun k hk => by
  rw [ring2 hk]
  split
  · exact .inr ⟨u7, e7, rfl⟩
  · split
    · exact .inr ⟨u6, e6, rfl⟩
    · exact .inl rfl
theorem len3 : ∀ k, k < 8 → (ringD dl3 k).length ≤ 140737488351232 := by rw [dl3_eq]; exact len1
/-- a write of a root on devices on which nothing waits -/
theorem uwriteC (S : Nat → Prop) (g : Nat) (a b : List (List UInt8)) (ha : 4 ≤ a.length) (hb4 : 4 ≤ b.length) (u : Ub) (p : Nat) (hp4 : p < 4) (hE : ubE u = 0) (hp : u.txg % 4 = p) (w wi : World) (hb : Below w.heap.size w wi) (hR : RootsAt wi) (h : Lv w wi S g (clD a b)) :
    Calls Tryd.prog 17 #[.pointer (some ⟨g, 0, none⟩), .agg #[.int .i64 u.txg, .string (bstr u.load)]] wi fun e wj => e = .returned (.int .i64 0) ∧ LvPost w wi S g ((clD a b).uw p (ubL u)) wj := by
  have hs := ubL_small hE
  have m0 : mayE (clD a b) ⟨0, p⟩ (ubL u) = 0 := mayE_cl rfl rfl (.inl rfl) (by simp [Dv.sec, clD]; omega) hs
  refine uwriteL S g (clD a b) u p hE hp m0 ?_ (by simp [clD]) w wi hb hR h
  unfold Dv.write
  rw [if_pos m0]
  exact mayE_cl rfl rfl (.inr rfl) (by simp [Dv.sec, clD]; omega) hs
end Go.Proofs.YtcamcjcmhjldpaaDoor
