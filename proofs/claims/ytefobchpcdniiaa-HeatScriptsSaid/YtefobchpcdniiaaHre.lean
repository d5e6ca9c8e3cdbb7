/- The reference of package heat: the sorted insertion of Hot: plain part; and rows that are spread behind rows. -/
import Derived.Test.YtefobchpcdniiaaHrd
import Derived.Deep.Upon
namespace Go.Proofs.Ytefobchpcdniiaa
open Go Go.RowKit Go.Maps
set_option linter.unusedSimpArgs false
set_option linter.unnecessarySimpa false
set_option linter.unusedVariables false

/-- back from a place, past all that x goes ahead of -/
def bk (x : It) (S : List It) : Nat → Nat
  | 0 => 0
  | a + 1 => if ltI x (S.getD a default) then bk x S a else a + 1
def rins (x : It) (S : List It) : List It := S.take (bk x S S.length) ++ x :: S.drop (bk x S S.length)
def rstep (now : Int) (S : List It) (c : Cn) : List It := if 0 < worthH c.n c.tick now then rins (itOf now c) S else S
def rhot (now : Int) (L : List Cn) : List It := L.foldl (rstep now) []
theorem rhot_snoc (now : Int) (L : List Cn) (c : Cn) : rhot now (L ++ [c]) = rstep now (rhot now L) c := by
  unfold rhot
  rw [List.foldl_append]
  rfl
theorem bk_le (x : It) (S : List It) : ∀ a, bk x S a ≤ a
  | 0 => Nat.le_refl _
  | a + 1 => by
    rw [bk]
    split
    · exact Nat.le_succ_of_le (bk_le x S a)
    · exact Nat.le_refl _
theorem bk_hi (x : It) (S : List It) : ∀ a i, bk x S a ≤ i → i < a → ltI x (S.getD i default) = true
  | 0, i, _, h => by omega
  | a + 1, i, h, hi => by
    rw [bk] at h
    split at h
    · rename_i hl
      by_cases e : i = a
      · subst e; exact hl
      · exact bk_hi x S a i h (by omega)
    · omega
theorem bk_lo (x : It) (S : List It) : ∀ a, 0 < bk x S a → ltI x (S.getD (bk x S a - 1) default) = false
  | 0, h => by simp [bk] at h
  | a + 1, h => by
    rw [bk] at h ⊢
    split
    · rename_i hl
      rw [if_pos hl] at h
      exact bk_lo x S a h
    · rename_i hl
      simpa using hl
theorem rins_perm (x : It) (S : List It) : (rins x S).Perm (x :: S) := by
  unfold rins
  have h1 : (S.take (bk x S S.length) ++ x :: S.drop (bk x S S.length)).Perm (x :: (S.take (bk x S S.length) ++ S.drop (bk x S S.length))) := List.perm_middle
  rwa [List.take_append_drop] at h1
theorem rins_len (x : It) (S : List It) : (rins x S).length = S.length + 1 := by
  rw [(rins_perm x S).length_eq, List.length_cons]
theorem rins_srt (x : It) {S : List It} (h : Srt S) : Srt (rins x S) := by
  have h0 := h
  unfold Srt at h
  rw [← List.take_append_drop (bk x S S.length) S, List.pairwise_append] at h
  obtain ⟨h1, h2, h3⟩ := h
  have hle := bk_le x S S.length
  have hb : ∀ y ∈ S.drop (bk x S S.length), leI x y := by
    intro y hy
    obtain ⟨i, hi, rfl⟩ := List.getElem_of_mem hy
    rw [List.length_drop] at hi
    have := bk_hi x S S.length (bk x S S.length + i) (by omega) (by omega)
    rw [List.getElem_drop]
    have e : S.getD (bk x S S.length + i) default = S[bk x S S.length + i] := by simp [List.getD_eq_getElem?_getD, show bk x S S.length + i < S.length by omega]
    rw [e] at this
    exact leI_of_lt this
  have ha : ∀ y ∈ S.take (bk x S S.length), leI y x := by
    intro y hy
    obtain ⟨i, hi, rfl⟩ := List.getElem_of_mem hy
    rw [List.length_take] at hi
    have hp : 0 < bk x S S.length := by omega
    have h4 := bk_lo x S S.length hp
    have e : S.getD (bk x S S.length - 1) default = S[bk x S S.length - 1] := by simp [List.getD_eq_getElem?_getD, show bk x S S.length - 1 < S.length by omega]
    rw [e] at h4
    have h5 : leI S[bk x S S.length - 1] x := h4
    rw [List.getElem_take]
    by_cases e2 : i = bk x S S.length - 1
    · subst e2; exact h5
    · exact leI_trans (List.pairwise_iff_getElem.1 h0 i (bk x S S.length - 1) (by omega) (by omega) (by omega)) h5
  unfold rins Srt
  rw [List.pairwise_append]
  refine ⟨h1, List.pairwise_cons.2 ⟨hb, h2⟩, fun a haa b hbb => ?_⟩
  rcases List.mem_cons.1 hbb with rfl | hbb
  · exact ha a haa
  · exact h3 a haa b hbb
theorem live_snoc (now : Int) (L : List Cn) (c : Cn) : liveL now (L ++ [c]) = if 0 < worthH c.n c.tick now then liveL now L ++ [itOf now c] else liveL now L := by
  unfold liveL
  rw [List.map_append, List.filter_append]
  have e : (itOf now c).w = worthH c.n c.tick now := rfl
  by_cases h : 0 < worthH c.n c.tick now <;> simp [e, h]
theorem rhot_is (now : Int) (L : List Cn) : ∀ j, j ≤ L.length → Srt (rhot now (L.take j)) ∧ (rhot now (L.take j)).Perm (liveL now (L.take j))
  | 0, _ => ⟨List.Pairwise.nil, List.Perm.refl _⟩
  | j + 1, h => by
    obtain ⟨h1, h2⟩ := rhot_is now L j (by omega)
    rw [List.take_succ_eq_append_getElem (by omega), rhot_snoc, live_snoc]
    unfold rstep
    split
    · refine ⟨rins_srt _ h1, (rins_perm _ _).trans ?_⟩
      exact (h2.cons _).trans (List.perm_append_comm (l₁ := [_]))
    · exact ⟨h1, h2⟩
theorem rhot_eq (now : Int) (L : List Cn) : rhot now L = sortI (liveL now L) := by
  obtain ⟨h1, h2⟩ := rhot_is now L L.length (Nat.le_refl _)
  rw [List.take_length] at h1 h2
  exact srt_eq h1 (sortI_srt _) (h2.trans (sortI_perm _).symm)
theorem rhot_len (now : Int) (L : List Cn) : (rhot now L).length ≤ L.length := by
  have h := (rhot_is now L L.length (Nat.le_refl _)).2.length_eq
  rw [List.take_length] at h
  rw [h]
  unfold liveL
  have := List.length_filter_le (fun i : It => decide (0 < i.w)) (L.map (itOf now))
  rwa [List.length_map] at this
theorem hotL_rhot (L : List Cn) (now n : Int) : hotL L now n = ((rhot now L).map It.key).take n.toNat := by
  unfold hotL
  rw [rhot_eq, List.map_take]

theorem orow_apart {w : World} {b1 b2 n1 n2 s1 s2 : Nat} {e1 e2 : TypeId} {v1 v2 : Value} {xs ys : List Value} (h1 : w.ownsRow b1 e1 s1 v1 n1 xs) (h2 : w.ownsRow b2 e2 s2 v2 n2 ys) (hne : e1 ≠ e2) {k : Nat} (hk : v1.ownBlock = some k) : v2.ownBlock ≠ some k := by
  rcases h1.2 with ⟨rfl, _⟩ | ⟨g, cap, cur, rfl, _, hc, _⟩
  · cases hk
  · have : g = k := by simpa [Value.ownBlock] using hk
    subst this
    exact row_ne h2 hc hne
/-- a row, or nothing, spread behind a row -/
theorem wpList_spread {P : Program} {ops : Array Oper} {rest : List Oper} {o : Oper} {a : Act} {Q : Exit → Act → World → Prop} (w : World) (hg : o.guard = none) (s x : Operand) (t : TypeId)
    (hop : o.op = .call { callee := .builtin .append, args := #[s, x], argTypes := #[t, t] })
    (B : Nat) (e : TypeId) (z : Value) (size bytes : Nat) (hu : P.underlying t = some (.slice e)) (hi : (P.info? e).map (fun i => (i.zero, i.size, i.bytes)) = some (some z, size, bytes))
    (hzs : z.cells.size = size) (hsz : 0 < size) (v : Value) (n : Nat) (xs : List Value) (hs : a.eval s = v) (hown : w.ownsRow B e size v n xs)
    (A : Option Addr) (m c : Nat) (us : List Value) (hx : a.eval x = .slice A m c) (hl : us.length = m * size) (hus : 0 < m → ∃ ad, A = some ad ∧ ∀ j u, us[j]? = some u → w.cell? (ad.add j) = some u) (h1 : ∀ u ∈ us, u.oneCell' = true)
    (h63 : n + m ≤ maxLen) (hbytes : (n + m) * bytes ≤ 140737488355328) (hB : B ≤ w.heap.size)
    (h : ∀ v' w', w'.ownsRow B e size v' (n + m) (xs ++ us) → (∀ k, k < w.heap.size → v.ownBlock ≠ some k → w'.heap[k]? = w.heap[k]?) → Below B w w' → w.heap.size ≤ w'.heap.size → wpList P ops Q rest (a.put o.dst v') w') :
    wpList P ops Q (o :: rest) a w := by
  obtain ⟨i0, hi0, hz0, hz1, hz2⟩ := info_parts hi
  by_cases hm : 0 < m
  · obtain ⟨ad, rfl, hcell⟩ := hus hm
    refine wpList_append_lies (P := P) w hg s x t hop B e i0 z size bytes hu hi0 hz0 hz1 hz2 hzs hsz v n xs hs hown ad m c us hx hl hcell h1 hm h63 hbytes hB w.heap.size rfl ?_
    intro g cap w' hown' hgrow _ _
    refine h _ w' hown' (fun k hk hne => hgrow.block k hk (fun e => hne e.symm)) ?_ hgrow.size
    exact (Below.refl B w).grown hgrow hB (fun k e => (hown.lt k e).1)
  · obtain rfl : m = 0 := by omega
    obtain rfl : us = [] := by rw [Nat.zero_mul] at hl; exact List.length_eq_zero_iff.1 hl
    obtain ⟨A', c', rfl⟩ := orow_form hown
    have hnc : n ≤ c' := by
      rcases hown.2 with ⟨h', h0⟩ | ⟨g, cap, cur, h', _, _, h3, _⟩
      · simp at h'; omega
      · simp at h'; omega
    have hsrc : Src P i0.size t (.slice A 0 c) 0 [] w := by
      rcases A with _ | ad
      · exact Src.ofNil w hu c
      · exact Src.ofSlice w hu ad 0 c [] (by simp) (by simp) (by simp)
    refine wpList_plain hg fun K hK => ?_
    have hr := run_append_nothing (P := P) w t t o.type e i0 hu hi0 A' n c' hnc (.slice A 0 c) hsrc
    unfold Oper.wp execOp
    simp only [hop, resolve, invoke, builtin, Sem.run_bind, Sem.run_pure, Result.andThen_ok, List.map_toArray, List.map_cons, List.map_nil, hs, hx, hr]
    exact hK _ _ (h _ w (by simpa using hown) (fun _ _ _ => rfl) (Below.refl _ _) (Nat.le_refl _))
theorem addr_add (b o j : Nat) : (⟨b, o, none⟩ : Addr).add j = ⟨b, o + j, none⟩ := by
  unfold Addr.add
  split <;> simp_all
theorem elem_of {P : Program} {t e : TypeId} (ht : P.underlying t = some (.slice e)) : P.elem t = e := by
  unfold Program.elem
  simp [ht]
/-- the tail of a row: where it begins is told only if there is a tail -/
theorem wpList_tail {P : Program} {ops : Array Oper} {rest : List Oper} {o : Oper} {a : Act} {Q : Exit → Act → World → Prop} (w : World) (hg : o.guard = none) (x lo : Operand) (t e : TypeId)
    (hop : o.op = .slice t x (some lo) none none) (ht : P.underlying t = some (.slice e)) (z : Value) (bytes : Nat) (hi : (P.info? e).map (fun i => (i.zero, i.size, i.bytes)) = some (some z, 1, bytes)) (b n c p : Nat) (hx : a.eval x = .slice (some ⟨b, 0, none⟩) n c) (hlo : a.eval lo = .int .i64 p) (hp : p ≤ n) (hn : n ≤ c)
    (h : ∀ ad : Addr, (0 < n - p → ad = ⟨b, p, none⟩) → wpList P ops Q rest (a.put o.dst (.slice (some ad) (n - p) (c - p))) w) :
    wpList P ops Q (o :: rest) a w := by
  obtain ⟨i0, hi0, hz0, hz1, hz2⟩ := info_parts hi
  refine wpList_plain hg fun K hK => ?_
  have he := elem_of ht
  have ht2 : P.underlying t = some (.slice (P.elem t)) := by rw [he]; exact ht
  have hs : (sizeOf e).run P w = .ok 1 w := by simp [sizeOf, typeInfo, hi0, hz1]
  have hr := run_slice_l (P := P) (w := w) t (some ⟨b, 0, none⟩) n c ht2 .i64 p (by omega) (by omega)
  rw [he, hs] at hr
  have hr2 : (Instr.sliceAt t (.slice (some ⟨b, 0, none⟩) n c) (some (.int .i64 p)) none none).run P w = .ok (sliced (some ⟨b, 0, none⟩) p n c 1) w := by
    rw [run_sliceAt_slice (P := P) (w := w) t _ _ _ _ ht2, hr]
    simp [Result.andThen]
  unfold Oper.wp
  simp [execOp, hop, hx, hlo, hr2, Result.andThen]
  by_cases hc : c = p
  · refine hK _ _ ?_
    have := h ⟨b, 0, none⟩ (by omega)
    unfold sliced
    rw [if_pos hc]
    exact this
  · refine hK _ _ ?_
    have := h ⟨b, p, none⟩ (fun _ => rfl)
    unfold sliced
    rw [if_neg hc]
    have e : (Option.map (fun x => Addr.add x (p * 1)) (some ⟨b, 0, none⟩) : Option Addr) = some ⟨b, p, none⟩ := by
      simp [addr_add]
    rw [e]
    exact this
end Go.Proofs.Ytefobchpcdniiaa
