/- Rows that are spread behind rows of the call's own; tails of rows. -/
import Derived.Test.YtiodeeliidhbgaaOwn
import Derived.Deep.Upon
namespace Go.Proofs.Ytiodeeliidhbgaa
open Go Go.RowKit
set_option linter.unusedSimpArgs false
set_option linter.unnecessarySimpa false
set_option linter.unusedVariables false

theorem str_info : (Try.prog.info? 9).map (fun i => (i.zero, i.size, i.bytes)) = some (some (.string ⟨#[]⟩), 1, 16) := by kernel_rfl
theorem wpList_ap2 {P : Program} {ops : Array Oper} {rest : List Oper} {o : Oper} {a : Act} {Q : Exit → Act → World → Prop} (w : World) (hg : o.guard = none) (s x : Operand) (t : TypeId)
    (hop : o.op = .call { callee := .builtin .append, args := #[s, x], argTypes := #[t, t] })
    (B : Nat) (e : TypeId) (z : Value) (size bytes : Nat) (hu : P.underlying t = some (.slice e)) (hi : (P.info? e).map (fun i => (i.zero, i.size, i.bytes)) = some (some z, size, bytes))
    (hzs : z.cells.size = size) (hsz : 0 < size) (v : Value) (n : Nat) (xs : List Value) (hs : a.eval s = v) (hown : w.ownsRow B e size v n xs)
    (us : List Value) {g : Nat} (hgw : w.heap.size = g) (hx : a.eval x = .slice (some ⟨g, 0, none⟩) 1 1) (hl : us.length = size) (h1 : ∀ u ∈ us, u.oneCell' = true)
    (h63 : n + 1 ≤ maxLen) (hbytes : (n + 1) * bytes ≤ 140737488355328) (hB : B ≤ w.heap.size)
    (h : ∀ v' w', w'.ownsRow B e size v' (n + 1) (xs ++ us) → (w.alloc (.cells us.toArray e)).grownBy w' v.ownBlock → Below B w w' → wpList P ops Q rest (a.put o.dst v') w') :
    wpList P ops Q (o :: rest) a (w.alloc (.cells us.toArray e)) := by
  subst hgw
  exact wpList_app w hg s x t hop B e z size bytes hu hi hzs hsz v n xs hs hown us hx hl h1 h63 hbytes hB h
theorem row_base {w : World} {b b' n size : Nat} {e : TypeId} {v : Value} {xs : List Value} (h : w.ownsRow b e size v n xs) (hb : b' ≤ b) : w.ownsRow b' e size v n xs :=
  ⟨h.1, h.2.imp (fun h => h) (fun ⟨g, cap, cur, h1, h2, h3⟩ => ⟨g, cap, cur, h1, Nat.le_trans hb h2, h3⟩)⟩
theorem set3_cell {w : World} {G : Nat} {a b c : Value} {p : Addr} (h : p.block ≠ G) : (((w.setCell ⟨G, 0, none⟩ a).setCell ⟨G, 1, none⟩ b).setCell ⟨G, 2, none⟩ c).cell? p = w.cell? p := by
  apply World.cell?_of_block
  rw [Below.heap_setCell _ _ _ _ h, Below.heap_setCell _ _ _ _ h, Below.heap_setCell _ _ _ _ h]
theorem set3_cell_d {w : World} {G : Nat} {a b c : Value} {p : Addr} (h : p.block ≠ G) : (((w.setCell ⟨G, 0, none⟩ a).setCell ⟨G, 1, none⟩ b).setCell ⟨G, 2, none⟩ c).drew.cell? p = w.cell? p := set3_cell h
theorem orow_form {w : World} {base n size : Nat} {e : TypeId} {v : Value} {xs : List Value} (h : w.ownsRow base e size v n xs) : ∃ A c, v = .slice A n c := by
  rcases h.2 with ⟨rfl, rfl⟩ | ⟨g, cap, cur, rfl, _⟩
  · exact ⟨_, _, rfl⟩
  · exact ⟨_, _, rfl⟩
theorem orow_apart {w : World} {b1 b2 n1 n2 s1 s2 : Nat} {e1 e2 : TypeId} {v1 v2 : Value} {xs ys : List Value} (h1 : w.ownsRow b1 e1 s1 v1 n1 xs) (h2 : w.ownsRow b2 e2 s2 v2 n2 ys) (hne : e1 ≠ e2) {k : Nat} (hk : v1.ownBlock = some k) : v2.ownBlock ≠ some k := by
  rcases h1.2 with ⟨rfl, _⟩ | ⟨g, cap, cur, rfl, _, hc, _⟩
  · cases hk
  · have : g = k := by simpa [Value.ownBlock] using hk
    subst this
    exact row_ne h2 hc hne
/-- a row, or nothing, spread behind a row -/
theorem wpList_spread {P : Program} {ops : Array Oper} {rest : List Oper} {o : Oper} {a : Act} {Q : Exit → Act → World → Prop} (w : World) (hg : o.guard = none) (s x : Operand) (t : TypeId)
    (hop : o.op = .call { callee := .builtin .append, args := #[s, x], argTypes := #[t, t] })
    (B : Nat) (e : TypeId) (z : Value) (size bytes : Nat) (hu : P.underlying t = some (.slice e)) (hi : (P.info? e).map (fun i => (i.zero, i.size, i.bytes)) = some (some z, size, bytes))
    (hzs : z.cells.size = size) (hsz : 0 < size) (v : Value) (n : Nat) (xs : List Value) (hs : a.eval s = v) (hown : w.ownsRow B e size v n xs)
    (A : Option Addr) (m c : Nat) (us : List Value) (hx : a.eval x = .slice A m c) (hl : us.length = m * size) (hus : 0 < m → ∃ ad, A = some ad ∧ ∀ j u, us[j]? = some u → w.cell? (ad.add j) = some u) (h1 : ∀ u ∈ us, u.oneCell' = true)
    (h63 : n + m ≤ maxLen) (hbytes : (n + m) * bytes ≤ 140737488355328) (hB : B ≤ w.heap.size)
    (h : ∀ v' w', w'.ownsRow B e size v' (n + m) (xs ++ us) → (∀ k, k < w.heap.size → v.ownBlock ≠ some k → w'.heap[k]? = w.heap[k]?) → Below B w w' → w.heap.size ≤ w'.heap.size → wpList P ops Q rest (a.put o.dst v') w') :
    wpList P ops Q (o :: rest) a w := by
  obtain ⟨i0, hi0, hz0, hz1, hz2⟩ := info_parts hi
  by_cases hm : 0 < m
  · obtain ⟨ad, rfl, hcell⟩ := hus hm
    refine wpList_append_lies (P := P) w hg s x t hop B e i0 z size bytes hu hi0 hz0 hz1 hz2 hzs hsz v n xs hs hown ad m c us hx hl hcell h1 hm h63 hbytes hB w.heap.size rfl ?_
    intro g cap w' hown' hgrow _ _
    refine h _ w' hown' (fun k hk hne => hgrow.block k hk (fun e => hne e.symm)) ?_ hgrow.size
    exact (Below.refl B w).grown hgrow hB (fun k e => (hown.lt k e).1)
  · obtain rfl : m = 0 := by omega
    obtain rfl : us = [] := by rw [Nat.zero_mul] at hl; exact List.length_eq_zero_iff.1 hl
    obtain ⟨A', c', rfl⟩ := orow_form hown
    have hnc : n ≤ c' := by
      rcases hown.2 with ⟨h', h0⟩ | ⟨g, cap, cur, h', _, _, h3, _⟩
      · simp at h'; omega
      · simp at h'; omega
    have hsrc : Src P i0.size t (.slice A 0 c) 0 [] w := by
      rcases A with _ | ad
      · exact Src.ofNil w hu c
      · exact Src.ofSlice w hu ad 0 c [] (by simp) (by simp) (by simp)
    refine wpList_plain hg fun K hK => ?_
    have hr := run_append_nothing (P := P) w t t o.type e i0 hu hi0 A' n c' hnc (.slice A 0 c) hsrc
    unfold Oper.wp execOp
    simp only [hop, resolve, invoke, builtin, Sem.run_bind, Sem.run_pure, Result.andThen_ok, List.map_toArray, List.map_cons, List.map_nil, hs, hx, hr]
    exact hK _ _ (h _ w (by simpa using hown) (fun _ _ _ => rfl) (Below.refl _ _) (Nat.le_refl _))
theorem addr_add (b o j : Nat) : (⟨b, o, none⟩ : Addr).add j = ⟨b, o + j, none⟩ := by
  unfold Addr.add
  split <;> simp_all
theorem elem_of {P : Program} {t e : TypeId} (ht : P.underlying t = some (.slice e)) : P.elem t = e := by
  unfold Program.elem
  simp [ht]
/-- the tail of a row: where it begins is told only if there is a tail -/
theorem wpList_tail {P : Program} {ops : Array Oper} {rest : List Oper} {o : Oper} {a : Act} {Q : Exit → Act → World → Prop} (w : World) (hg : o.guard = none) (x lo : Operand) (t e : TypeId)
    (hop : o.op = .slice t x (some lo) none none) (ht : P.underlying t = some (.slice e)) (z : Value) (bytes : Nat) (hi : (P.info? e).map (fun i => (i.zero, i.size, i.bytes)) = some (some z, 1, bytes)) (b n c p : Nat) (hx : a.eval x = .slice (some ⟨b, 0, none⟩) n c) (hlo : a.eval lo = .int .i64 p) (hp : p ≤ n) (hn : n ≤ c)
    (h : ∀ ad : Addr, (0 < n - p → ad = ⟨b, p, none⟩) → wpList P ops Q rest (a.put o.dst (.slice (some ad) (n - p) (c - p))) w) :
    wpList P ops Q (o :: rest) a w := by
  obtain ⟨i0, hi0, hz0, hz1, hz2⟩ := info_parts hi
  refine wpList_plain hg fun K hK => ?_
  have he := elem_of ht
  have ht2 : P.underlying t = some (.slice (P.elem t)) := by rw [he]; exact ht
  have hs : (sizeOf e).run P w = .ok 1 w := by simp [sizeOf, typeInfo, hi0, hz1]
  have hr := run_slice_l (P := P) (w := w) t (some ⟨b, 0, none⟩) n c ht2 .i64 p (by omega) (by omega)
  rw [he, hs] at hr
  have hr2 : (Instr.sliceAt t (.slice (some ⟨b, 0, none⟩) n c) (some (.int .i64 p)) none none).run P w = .ok (sliced (some ⟨b, 0, none⟩) p n c 1) w := by
    rw [run_sliceAt_slice (P := P) (w := w) t _ _ _ _ ht2, hr]
    simp [Result.andThen]
  unfold Oper.wp
  simp [execOp, hop, hx, hlo, hr2, Result.andThen]
  by_cases hc : c = p
  · refine hK _ _ ?_
    have := h ⟨b, 0, none⟩ (by omega)
    unfold sliced
    rw [if_pos hc]
    exact this
  · refine hK _ _ ?_
    have := h ⟨b, p, none⟩ (fun _ => rfl)
    unfold sliced
    rw [if_neg hc]
    have e : (Option.map (fun x => Addr.add x (p * 1)) (some ⟨b, 0, none⟩) : Option Addr) = some ⟨b, p, none⟩ := by
      simp [addr_add]
    rw [e]
    exact this
theorem orow_pos {w : World} {base n size : Nat} {e : TypeId} {v : Value} {xs : List Value} (h : w.ownsRow base e size v n xs) (hn : 0 < n) : ∃ b c, v = .slice (some ⟨b, 0, none⟩) n c := by
  rcases h.2 with ⟨_, e⟩ | ⟨g, cap, cur, rfl, _⟩
  · omega
  · exact ⟨_, _, rfl⟩
theorem orow_cap {w : World} {base n size b c : Nat} {e : TypeId} {xs : List Value} (h : w.ownsRow base e size (.slice (some ⟨b, 0, none⟩) n c) n xs) : n ≤ c ∧ c ≤ maxLen := by
  rcases h.2 with ⟨e, _⟩ | ⟨g, cap, cur, e, _, _, h3, h4, _⟩
  · cases e
  · cases e; exact ⟨h3, h4⟩
end Go.Proofs.Ytiodeeliidhbgaa
