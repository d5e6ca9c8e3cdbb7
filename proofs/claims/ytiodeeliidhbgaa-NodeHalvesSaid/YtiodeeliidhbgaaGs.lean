/- A list of texts behind a list that grows. -/
import Derived.Test.YtiodeeliidhbgaaGr
namespace Go.Proofs.Ytiodeeliidhbgaa
open Go Go.RowKit
set_option linter.unusedSimpArgs false
set_option linter.unnecessarySimpa false
set_option linter.unusedVariables false

theorem run_append_empty {P : Program} {w : World} (base : Nat) (t ty e : TypeId) (i : TypeInfo) (size : Nat) (ht : P.underlying t = some (.slice e)) (hi : P.info? e = some i)
    (v : Value) (n : Nat) (xs : List Value) (hown : w.ownsRow base e size v n xs) (A : Option Addr) (c : Nat) :
    (Builtin.append_ #[t, t] ty #[v, .slice A 0 c]).run P w = .ok v w := by
  rcases hown.2 with ⟨rfl, rfl⟩ | ⟨g, cap, cur, rfl, _, _, hnc, _⟩
  · cases A <;> simp [Builtin.append_, run_underlying ht, sizeOf, typeInfo, hi, Builtin.lenOf, Builtin.firstCells, loadCells, loadCellsFrom]
  · cases A <;> simp [Builtin.append_, run_underlying ht, sizeOf, typeInfo, hi, Builtin.lenOf, Builtin.firstCells, loadCells, loadCellsFrom, hnc, storeCells]
theorem grownBy_refl (w : World) (row : Option Nat) : w.grownBy w row := ⟨rfl, rfl, rfl, Nat.le_refl _, fun _ _ _ => rfl⟩

/-- 'append(s, xs...)' where s is the call's own, xs is read: in a region that does not draw -/
theorem wpList_append_ss {w : World} {ops : Array Oper} {rest : List Oper} {o : Oper} {a : Act} {Q : Exit → Act → World → Prop} (hgd : o.guard = none) (s x : Operand)
    (ho : o.op = .call { callee := .builtin .append, args := #[s, x], argTypes := #[22, 22] })
    (base : Nat) (v : Value) (n : Nat) (ks : List (List UInt8)) (hs : a.eval s = v) (hown : w.ownsRow base 9 1 v n (secV ks))
    (vx : Value) (xs : List (List UInt8)) (hx : a.eval x = vx) (hxs : SsAt w vx xs) (h63 : n + xs.length ≤ 1000000) (hbase : base ≤ w.heap.size)
    (h : ∀ A cap w', w'.ownsRow base 9 1 (.slice A (n + xs.length) cap) (n + xs.length) (secV ks ++ secV xs) → w.grownBy w' v.ownBlock → (∀ g, (Value.slice A (n + xs.length) cap).ownBlock = some g → v.ownBlock = some g ∨ g = w.heap.size) → wpList Try.prog ops Q rest (a.put o.dst (.slice A (n + xs.length) cap)) w') : wpList Try.prog ops Q (o :: rest) a w := by
  obtain ⟨i0, hi0, hz0, hz1, hz2⟩ := info_parts str_info
  obtain ⟨A, c, rfl, hc⟩ := hxs
  by_cases h0 : xs.length = 0
  · have e : xs = [] := List.length_eq_zero_iff.1 h0
    subst e
    obtain ⟨B, d, rfl⟩ := orow_form hown
    refine wpList_plain hgd fun K hK => ?_
    have hrun := run_append_empty (P := Try.prog) (w := w) base 22 o.type 9 i0 1 Try.underlying22 hi0 _ n (secV ks) hown A c
    unfold Oper.wp
    simp only [List.length_nil] at hx
    simp [execOp, ho, resolve, invoke, builtin, hs, hx, hrun, Result.andThen]
    exact hK _ _ (h B d w (by simpa [secV] using hown) (grownBy_refl _ _) (fun g e => .inl (by simpa using e)))
  · obtain ⟨ad, rfl, _⟩ := hc 0 (by omega)
    refine wpList_append_lies (P := Try.prog) w hgd s x 22 ho base 9 i0 (.string ⟨#[]⟩) 1 16 Try.underlying22 hi0 hz0 hz1 hz2 rfl (by decide) v n (secV ks) hs hown ad xs.length c (secV xs) hx (by rw [secV_len, Nat.mul_one]) ?_ ?_ (by omega) (by unfold maxLen; omega) (by omega) hbase w.heap.size rfl ?_
    · intro j u hu
      simp only [secV, List.getElem?_map, Option.map_eq_some_iff] at hu
      obtain ⟨y, hy, rfl⟩ := hu
      have hj : j < xs.length := (List.getElem?_eq_some_iff.1 hy).1
      obtain ⟨ad', e, hcell⟩ := hc j hj
      cases e
      rw [hcell, List.getD_eq_getElem?_getD, hy]
      rfl
    · intro u hu
      simp only [secV, List.mem_map] at hu
      obtain ⟨y, _, rfl⟩ := hu
      rfl
    · intro g cap w' h1 h2 h3 h4
      refine h _ _ _ h1 h2 (fun g' e => ?_)
      rcases h3 with h3 | h3
      · left
        have hg : g = g' := by
          simp only [Value.ownBlock] at e
          first
            | (split at e <;> simp_all)
            | simpa using e
        rw [← hg]; exact h3
      · right
        have hg : g = g' := by
          simp only [Value.ownBlock] at e
          first
            | (split at e <;> simp_all)
            | simpa using e
        rw [← hg]; exact h3

section
variable {T : TypeId} {w0 w w' : World} {G n1 n2 : Nat} {leaf : Bool} {ks vs : List (List UInt8)} {vk vv : Value}
theorem secV_app (a b : List (List UInt8)) : secV a ++ secV b = secV (a ++ b) := by simp [secV]
theorem GrSt.appL1 {xs : List (List UInt8)} {A : Option Addr} {cap N : Nat} (hN : n1 + xs.length = N) (h : GrSt T w0 G leaf ks vs n1 n2 vk vv w) (hT : T ≠ 9) (hown : w'.ownsRow w0.heap.size 9 1 (.slice A N cap) N (secV ks ++ secV xs)) (hgr : w.grownBy w' vk.ownBlock) (hat : ∀ g, (Value.slice A N cap).ownBlock = some g → vk.ownBlock = some g ∨ g = w.heap.size) :
    Blk w' G T #[.bool leaf, vk, vv] ∧ GrSt T w0 G leaf (ks ++ xs) vs N n2 (.slice A N cap) vv (w'.setCell ⟨G, 1, none⟩ (.slice A N cap)) ∧ OtherB G w (w'.setCell ⟨G, 1, none⟩ (.slice A N cap)) := by
  have b := h.b.grown hgr (fun e => row_ne h.o1 h.b hT e.symm)
  have o2 := row_grown h.o2 hgr (fun j e e2 => h.one j e2 e)
  have one : ∀ j, (Value.slice A N cap).ownBlock = some j → vv.ownBlock ≠ some j := by
    intro j e e2
    rcases hat j e with e3 | e3
    · exact h.one j e3 e2
    · have := (h.o2.lt j e2).2
      omega
  refine ⟨b, ⟨by simpa using b.set_ 1 (.slice A N cap), ?_, row_set o2 (row_ne o2 b hT) _, one, below_at (h.bel.grown hgr h.bel.size (fun j e => (h.o1.lt j e).1)) h.l _ _, h.l⟩, fun j t cs hb ht hj => (hb.grown hgr (fun e => row_ne h.o1 hb ht e.symm)).far (p := ⟨G, 1, none⟩) hj _⟩
  rw [secV_app] at hown
  exact row_set hown (row_ne hown b hT) _
theorem GrSt.appL2 {xs : List (List UInt8)} {A : Option Addr} {cap N : Nat} (hN : n2 + xs.length = N) (h : GrSt T w0 G leaf ks vs n1 n2 vk vv w) (hT : T ≠ 9) (hown : w'.ownsRow w0.heap.size 9 1 (.slice A N cap) N (secV vs ++ secV xs)) (hgr : w.grownBy w' vv.ownBlock) (hat : ∀ g, (Value.slice A N cap).ownBlock = some g → vv.ownBlock = some g ∨ g = w.heap.size) :
    Blk w' G T #[.bool leaf, vk, vv] ∧ GrSt T w0 G leaf ks (vs ++ xs) n1 N vk (.slice A N cap) (w'.setCell ⟨G, 2, none⟩ (.slice A N cap)) ∧ OtherB G w (w'.setCell ⟨G, 2, none⟩ (.slice A N cap)) := by
  have b := h.b.grown hgr (fun e => row_ne h.o2 h.b hT e.symm)
  have o1 := row_grown h.o1 hgr (fun j e e2 => h.one j e e2)
  have one : ∀ j, vk.ownBlock = some j → (Value.slice A N cap).ownBlock ≠ some j := by
    intro j e2 e
    rcases hat j e with e3 | e3
    · exact h.one j e2 e3
    · have := (h.o1.lt j e2).2
      omega
  refine ⟨b, ⟨by simpa using b.set_ 2 (.slice A N cap), row_set o1 (row_ne o1 b hT) _, ?_, one, below_at (h.bel.grown hgr h.bel.size (fun j e => (h.o2.lt j e).1)) h.l _ _, h.l⟩, fun j t cs hb ht hj => (hb.grown hgr (fun e => row_ne h.o2 hb ht e.symm)).far (p := ⟨G, 2, none⟩) hj _⟩
  rw [secV_app] at hown
  exact row_set hown (row_ne hown b hT) _
end
end Go.Proofs.Ytiodeeliidhbgaa
