/- Rows of a program's own: an empty one may be a cut of another's (its capacity is 0 then, and nothing is ever written through it): laws, no condition. -/
import Derived.Test.YtmdjbmhjnajpgaaDoorMem
import Derived.Deep.RegionLaw
import Derived.Deep.AppendLies
import Derived.Laws.OwnMore
import Derived.ArgAppend
namespace Go.Proofs.YtmdjbmhjnajpgaaDoor
open Go.RowKit
set_option linter.unusedSimpArgs false
set_option linter.unnecessarySimpa false
set_option linter.unusedVariables false

theorem Blk.type_eq' {w : World} {j : Nat} {t t' : TypeId} {cs cs' : Array Value} (h : Blk w j t cs) (h' : Blk w j t' cs') : t = t' := by
  unfold Blk at h h'
  rw [h] at h'
  simp at h'
  exact h'.2
theorem blk_at {w : World} {t : TypeId} {cs : Array Value} {g : Nat} (h : w.heap.size = g) : Blk (w.alloc (.cells cs t)) g t cs := by rw [← h]; exact Blk.new _ _ _
theorem Keep.grown {B : Nat} {S : Nat → Prop} {w w1 w2 : World} {row : Option Nat} (h : Keep B S w w1) (hg : w1.grownBy w2 row) (hS : ∀ k, row = some k → k < B → S k) (hB : B ≤ w1.heap.size) : Keep B S w w2 :=
  ⟨hg.os.trans h.os, hg.tape.trans h.tape, hg.output.trans h.output, Nat.le_trans h.size hg.size, fun k hk hs => (hg.block k (Nat.lt_of_lt_of_le hk hB) (fun e => hs (hS k e.symm hk))).trans (h.block k hk hs)⟩
/-- one frame behind another: what the second one turned was new, or may turn -/
theorem Keep.then {B : Nat} {S S' : Nat → Prop} {w w1 w2 : World} (h : Keep B S w w1) (k : Keep w1.heap.size S' w1 w2) (hB : B ≤ w1.heap.size) (hS : ∀ j, j < B → S' j → S j) : Keep B S w w2 :=
  h.trans (k.mono hB hS)
/-- a frame out of smaller ones: what was new below is not spoken of -/
theorem Keep.weak {B B' : Nat} {S S' : Nat → Prop} {w w' : World} (h : Keep B S w w') (hB : B' ≤ B) (hS : ∀ k, S k → S' k) : Keep B' S' w w' := h.mono hB (fun k _ e => hS k e)

/-- the block of a row that has room for anything -/
def zblock : Value → Option Nat
  | .slice (some a) _ (_ + 1) => some a.block
  | _ => none
theorem zblock_some {a : Addr} {n c : Nat} (h : 0 < c) : zblock (.slice (some a) n c) = some a.block := by
  obtain ⟨k, rfl⟩ : ∃ k, c = k + 1 := ⟨c - 1, by omega⟩
  rfl
theorem zblock_zero (A : Option Addr) (n : Nat) : zblock (.slice A n 0) = none := by cases A <;> rfl
theorem zblock_nil (n c : Nat) : zblock (.slice none n c) = none := rfl

/-- a slice value over a row of the program's own; or empty, without room -/
def Owns (w : World) (e : TypeId) (size : Nat) (v : Value) (n : Nat) (xs : List Value) : Prop :=
  (w.ownsRow 0 e size v n xs ∧ zblock v = v.ownBlock) ∨ (∃ a, v = .slice (some a) 0 0 ∧ n = 0 ∧ xs = [])

section
variable {w w' : World} {e : TypeId} {size : Nat} {v : Value} {n : Nat} {xs : List Value}
theorem Owns.nil (w : World) (e : TypeId) (size : Nat) : Owns w e size (.slice none 0 0) 0 [] := .inl ⟨World.ownsRow_nil _ _ _ _, rfl⟩
theorem Owns.len (h : Owns w e size v n xs) : xs.length = n * size := by
  rcases h with ⟨h, _⟩ | ⟨a, rfl, rfl, rfl⟩
  · exact h.1
  · simp
theorem Owns.form (h : Owns w e size v n xs) : ∃ A c, v = .slice A n c ∧ n ≤ c ∧ c ≤ maxLen := by
  rcases h with ⟨h, _⟩ | ⟨a, rfl, rfl, rfl⟩
  · rcases h.2 with ⟨rfl, rfl⟩ | ⟨g, cap, cur, rfl, _, _, h3, h4, _⟩
    · exact ⟨_, _, rfl, Nat.le_refl _, Nat.zero_le _⟩
    · exact ⟨_, _, rfl, h3, h4⟩
  · exact ⟨_, _, rfl, Nat.le_refl _, Nat.zero_le _⟩
theorem Owns.row (h : Owns w e size v n xs) (hn : 0 < n) : w.ownsRow 0 e size v n xs := by
  rcases h with ⟨h, _⟩ | ⟨a, rfl, rfl, rfl⟩
  · exact h
  · omega
theorem Owns.of {cap g : Nat} (h : w.ownsRow 0 e size (.slice (some ⟨g, 0, none⟩) n cap) n xs) (hc : 0 < cap) : Owns w e size (.slice (some ⟨g, 0, none⟩) n cap) n xs :=
  .inl ⟨h, by rw [zblock_some hc]; rfl⟩
theorem Owns.of_any {base : Nat} (h : w.ownsRow base e size v n xs) (hn : 0 < n) : Owns w e size v n xs := by
  rcases h.2 with ⟨_, h0⟩ | ⟨g, cap, cur, rfl, h1, h2, h3, h4⟩
  · omega
  · exact .inl ⟨⟨h.1, .inr ⟨g, cap, cur, rfl, Nat.zero_le _, h2, h3, h4⟩⟩, by rw [zblock_some (by omega)]; rfl⟩
theorem _root_.Go.World.ownsRow.at0 {base : Nat} (h : w.ownsRow base e size v n xs) : w.ownsRow 0 e size v n xs := by
  rcases h.2 with h0 | ⟨g, cap, cur, rfl, h1, h2⟩
  · exact ⟨h.1, .inl h0⟩
  · exact ⟨h.1, .inr ⟨g, cap, cur, rfl, Nat.zero_le _, h2⟩⟩
theorem Owns.lt (h : Owns w e size v n xs) {k : Nat} (hk : zblock v = some k) : k < w.heap.size := by
  rcases h with ⟨h, hz⟩ | ⟨a, rfl, rfl, rfl⟩
  · rw [hz] at hk
    exact (h.lt k hk).2
  · rw [zblock_zero] at hk; cases hk
theorem row_moved {base : Nat} (h : w.ownsRow base e size v n xs) (hb : ∀ k, v.ownBlock = some k → w'.heap[k]? = w.heap[k]?) : w'.ownsRow base e size v n xs := by
  refine ⟨h.1, ?_⟩
  rcases h.2 with h0 | ⟨k, cap, cur, rfl, hg, hc, hr⟩
  · exact .inl h0
  · exact .inr ⟨k, cap, cur, rfl, hg, (hb k rfl).trans hc, hr⟩
theorem Owns.moved (h : Owns w e size v n xs) (hb : ∀ k, zblock v = some k → w'.heap[k]? = w.heap[k]?) : Owns w' e size v n xs := by
  rcases h with ⟨h, hz⟩ | h
  · refine .inl ⟨row_moved h (fun k hk => hb k (by rw [hz]; exact hk)), hz⟩
  · exact .inr h
theorem Owns.keep {B : Nat} {S : Nat → Prop} (h : Owns w e size v n xs) (hk : Keep B S w w') (hB : ∀ k, zblock v = some k → k < B ∧ ¬ S k) : Owns w' e size v n xs :=
  h.moved (fun k e => hk.block k (hB k e).1 (hB k e).2)
theorem Owns.below (h : Owns w e size v n xs) (hb : Below w.heap.size w w') : Owns w' e size v n xs := h.moved (fun k e => hb.block k (h.lt e))
theorem Owns.drew (h : Owns w e size v n xs) : Owns w.drew e size v n xs := h.below (Below.refl _ _).drew
theorem Owns.alloc (h : Owns w e size v n xs) (o : Obj) : Owns (w.alloc o) e size v n xs := h.below ((Below.refl _ _).alloc (Nat.le_refl _) o)
theorem Owns.set (h : Owns w e size v n xs) {g i : Nat} (hne : zblock v ≠ some g) (u : Value) : Owns (w.setCell ⟨g, i, none⟩ u) e size v n xs :=
  h.moved (fun k e => Below.heap_setCell _ _ _ _ (by rintro rfl; exact hne e))
theorem Owns.grown {row : Option Nat} (h : Owns w e size v n xs) (hg : w.grownBy w' row) (hne : ∀ k, zblock v = some k → row ≠ some k) : Owns w' e size v n xs :=
  h.moved (fun k e => hg.block k (h.lt e) (fun x => hne k e x.symm))
theorem Owns.ne {g : Nat} {t : TypeId} {cs : Array Value} (h : Owns w e size v n xs) (hb : Blk w g t cs) (hte : t ≠ e) : zblock v ≠ some g := by
  intro hk
  rcases h with ⟨h, hz⟩ | ⟨a, rfl, rfl, rfl⟩
  · rw [hz] at hk
    rcases h.2 with ⟨rfl, _⟩ | ⟨k, cap, cur, rfl, _, hc, _⟩
    · simp [Value.ownBlock] at hk
    · simp [Value.ownBlock] at hk
      subst hk
      exact hte (hb.type_eq' hc)
  · rw [zblock_zero] at hk; cases hk
theorem row_ne {base g : Nat} {t : TypeId} {cs : Array Value} (h : w.ownsRow base e size v n xs) (hb : Blk w g t cs) (hte : t ≠ e) : v.ownBlock ≠ some g := by
  intro hk
  rcases h.2 with ⟨rfl, _⟩ | ⟨k, cap, cur, rfl, _, hc, _⟩
  · simp [Value.ownBlock] at hk
  · simp [Value.ownBlock] at hk
    subst hk
    exact hte (hb.type_eq' hc)
theorem row_blk {base b c : Nat} (h : w.ownsRow base e size (.slice (some ⟨b, 0, none⟩) n c) n xs) : ∃ cur, Blk w b e cur := by
  rcases h.2 with ⟨h', _⟩ | ⟨g, cap, cur, h', _, hg, _⟩
  · simp at h'
  · simp at h'
    obtain ⟨rfl, rfl⟩ := h'
    exact ⟨cur, hg⟩
theorem Owns.ne_row {base b n2 c2 size2 : Nat} {e2 : TypeId} {ys : List Value} (h : Owns w e size v n xs) (hb : w.ownsRow base e2 size2 (.slice (some ⟨b, 0, none⟩) n2 c2) n2 ys) (hte : e2 ≠ e) : zblock v ≠ some b := by
  obtain ⟨cur, hc⟩ := row_blk hb
  exact h.ne hc hte
theorem row_lt {base b c : Nat} (h : w.ownsRow base e size (.slice (some ⟨b, 0, none⟩) n c) n xs) : b < w.heap.size := (h.lt b rfl).2
theorem row_below {base : Nat} (h : w.ownsRow base e size v n xs) (hb : Below w.heap.size w w') : w'.ownsRow base e size v n xs := row_moved h (fun k e => hb.block k (h.lt k e).2)
theorem row_set {base g i : Nat} (h : w.ownsRow base e size v n xs) (hne : v.ownBlock ≠ some g) (u : Value) : (w.setCell ⟨g, i, none⟩ u).ownsRow base e size v n xs :=
  row_moved h (fun k e => Below.heap_setCell _ _ _ _ (by rintro rfl; exact hne e))
theorem row_grown {base : Nat} {row : Option Nat} (h : w.ownsRow base e size v n xs) (hg : w.grownBy w' row) (hne : ∀ k, v.ownBlock = some k → row ≠ some k) : w'.ownsRow base e size v n xs :=
  row_moved h (fun k e => hg.block k (h.lt k e).2 (fun x => hne k e x.symm))
theorem row_keep {base B : Nat} {S : Nat → Prop} (h : w.ownsRow base e size v n xs) (hk : Keep B S w w') (hB : ∀ k, v.ownBlock = some k → k < B ∧ ¬ S k) : w'.ownsRow base e size v n xs :=
  row_moved h (fun k e => hk.block k (hB k e).1 (hB k e).2)
end

section
variable {P : Program} (w : World)
/-- append to such a slice -/
theorem run_append_z (t ty : TypeId) (e : TypeId) (i : TypeInfo) (z : Value) (size bytes : Nat) (ht : P.underlying t = some (.slice e)) (hi : P.info? e = some i) (hz : i.zero = some z)
    (hsize : i.size = size) (hby : i.bytes = bytes) (hzs : z.cells.size = size) (hsz : 0 < size)
    (v : Value) (n : Nat) (xs : List Value) (hown : Owns w e size v n xs)
    (ad : Addr) (m c : Nat) (news : List Value) (hl : news.length = m * size) (hnews : ∀ j u, news[j]? = some u → w.cell? (ad.add j) = some u) (h1 : ∀ u ∈ news, u.oneCell' = true)
    (hm : 0 < m) (h63 : n + m ≤ maxLen) (hbytes : (n + m) * bytes ≤ 140737488355328) (H : Nat) (hH : w.heap.size = H) :
    ∃ g cap w', (Builtin.append_ #[t, t] ty #[v, .slice (some ad) m c]).run P w = .ok (.slice (some ⟨g, 0, none⟩) (n + m) cap) w' ∧
      Owns w' e size (.slice (some ⟨g, 0, none⟩) (n + m) cap) (n + m) (xs ++ news) ∧ w.grownBy w' (zblock v) ∧ (zblock v = some g ∨ H ≤ g) ∧ g < w'.heap.size ∧ 0 < cap := by
  rcases hown with ⟨hown, hzb⟩ | ⟨a, rfl, rfl, rfl⟩
  · obtain ⟨g, cap, w', h1, h2, h3, h4, h5⟩ := run_append_lies (P := P) w t ty 0 e i z size bytes ht hi hz hsize hby hzs hsz v n xs hown ad m c news hl hnews h1 hm h63 hbytes (Nat.zero_le _) H hH
    have hc : 0 < cap := by
      rcases h2.2 with ⟨hh, _⟩ | ⟨g', cap', cur, hh, _, _, hcc, _⟩
      · simp at hh
      · simp at hh; omega
    exact ⟨g, cap, w', h1, Owns.of h2 hc, by rw [hzb]; exact h3, by rw [hzb]; rcases h4 with h4 | h4; exact .inl h4; exact .inr (by omega), h5, hc⟩
  · obtain ⟨v', w', h1, h2, h3⟩ := run_append_arg_grows (P := P) w t ty e i z size bytes ht hi hz hsize hby hzs hsz a 0 0 [] (by simp) (by simp) ad m c news hl hnews (by omega) h63 hbytes
    have hf := h2.form (by omega)
    obtain ⟨g, cap, rfl, hg, hlt⟩ := hf
    have hc : 0 < cap := by
      rcases h2.2 with ⟨hh, _⟩ | ⟨g', cap', cur, hh, _, _, hcc, _⟩
      · simp at hh
      · simp at hh; omega
    exact ⟨g, cap, w', h1, Owns.of h2.at0 hc, by rw [zblock_zero]; exact h3, .inr (by omega), hlt, hc⟩

/-- at a step of a region that draws its order -/
theorem step_append_z {ops : Array Oper} {o : Oper} {a : Act} {K : Act → World → Prop} {Q : Exit → Act → World → Prop} {E : Prop} (hgd : o.guard = none) (s x : Operand) (t : TypeId)
    (ho : o.op = .call { callee := .builtin .append, args := #[s, x], argTypes := #[t, t] })
    (e : TypeId) (i : TypeInfo) (z : Value) (size bytes : Nat) (ht : P.underlying t = some (.slice e)) (hi : P.info? e = some i) (hz : i.zero = some z)
    (hsize : i.size = size) (hby : i.bytes = bytes) (hzs : z.cells.size = size) (hsz : 0 < size)
    (v : Value) (n : Nat) (xs : List Value) (hs : a.eval s = v) (hown : Owns w e size v n xs)
    (ad : Addr) (m c : Nat) (news : List Value) (hx : a.eval x = .slice (some ad) m c) (hl : news.length = m * size) (hnews : ∀ j u, news[j]? = some u → w.cell? (ad.add j) = some u) (h1 : ∀ u ∈ news, u.oneCell' = true)
    (hm : 0 < m) (h63 : n + m ≤ maxLen) (hbytes : (n + m) * bytes ≤ 140737488355328) (H : Nat) (hH : w.heap.size = H)
    (h : ∀ g cap w', Owns w' e size (.slice (some ⟨g, 0, none⟩) (n + m) cap) (n + m) (xs ++ news) → w.grownBy w' (zblock v) → (zblock v = some g ∨ H ≤ g) → g < w'.heap.size → 0 < cap → K (a.put o.dst (.slice (some ⟨g, 0, none⟩) (n + m) cap)) w') :
    if Region.wanted o (yielded ops a.tmps) = true then Oper.wp P o a w K Q else E := by
  have hw : Region.wanted o (yielded ops a.tmps) = true := by simp [Region.wanted, hgd]
  rw [if_pos hw]
  obtain ⟨g, cap, w', hr, h2, h3, h4, h5, h6⟩ := run_append_z (P := P) w t o.type e i z size bytes ht hi hz hsize hby hzs hsz v n xs hown ad m c news hl hnews h1 hm h63 hbytes H hH
  unfold Oper.wp execOp
  simp only [ho, resolve, invoke, builtin, Sem.run_bind, Sem.run_pure, Result.andThen_ok, List.map_toArray, List.map_cons, List.map_nil, hs, hx, hr]
  exact h g cap w' h2 h3 h4 h5 h6

theorem wpList_append_z {ops : Array Oper} {rest : List Oper} {o : Oper} {a : Act} {Q : Exit → Act → World → Prop} (hgd : o.guard = none) (s x : Operand) (t : TypeId)
    (ho : o.op = .call { callee := .builtin .append, args := #[s, x], argTypes := #[t, t] })
    (e : TypeId) (i : TypeInfo) (z : Value) (size bytes : Nat) (ht : P.underlying t = some (.slice e)) (hi : P.info? e = some i) (hz : i.zero = some z)
    (hsize : i.size = size) (hby : i.bytes = bytes) (hzs : z.cells.size = size) (hsz : 0 < size)
    (v : Value) (n : Nat) (xs : List Value) (hs : a.eval s = v) (hown : Owns w e size v n xs)
    (ad : Addr) (m c : Nat) (news : List Value) (hx : a.eval x = .slice (some ad) m c) (hl : news.length = m * size) (hnews : ∀ j u, news[j]? = some u → w.cell? (ad.add j) = some u) (h1 : ∀ u ∈ news, u.oneCell' = true)
    (hm : 0 < m) (h63 : n + m ≤ maxLen) (hbytes : (n + m) * bytes ≤ 140737488355328) (H : Nat) (hH : w.heap.size = H)
    (h : ∀ g cap w', Owns w' e size (.slice (some ⟨g, 0, none⟩) (n + m) cap) (n + m) (xs ++ news) → w.grownBy w' (zblock v) → (zblock v = some g ∨ H ≤ g) → g < w'.heap.size → 0 < cap → wpList P ops Q rest (a.put o.dst (.slice (some ⟨g, 0, none⟩) (n + m) cap)) w') : wpList P ops Q (o :: rest) a w := by
  refine wpList_plain hgd fun K hK => ?_
  obtain ⟨g, cap, w', hr, h2, h3, h4, h5, h6⟩ := run_append_z (P := P) w t o.type e i z size bytes ht hi hz hsize hby hzs hsz v n xs hown ad m c news hl hnews h1 hm h63 hbytes H hH
  unfold Oper.wp execOp
  simp only [ho, resolve, invoke, builtin, Sem.run_bind, Sem.run_pure, Result.andThen_ok, List.map_toArray, List.map_cons, List.map_nil, hs, hx, hr]
  exact hK _ _ (h g cap w' h2 h3 h4 h5 h6)

/-- slices.Clone's append: 'append(s[:0:0], s...)', s not empty: a row of its own -/
theorem wpList_clone {ops : Array Oper} {rest : List Oper} {o : Oper} {a : Act} {Q : Exit → Act → World → Prop} (hgd : o.guard = none) (s x : Operand) (t : TypeId)
    (ho : o.op = .call { callee := .builtin .append, args := #[s, x], argTypes := #[t, t] })
    (e : TypeId) (i : TypeInfo) (z : Value) (size bytes : Nat) (ht : P.underlying t = some (.slice e)) (hi : P.info? e = some i) (hz : i.zero = some z)
    (hsize : i.size = size) (hby : i.bytes = bytes) (hzs : z.cells.size = size) (hsz : 0 < size)
    (b : Addr) (hs : a.eval s = .slice (some b) 0 0)
    (ad : Addr) (m c : Nat) (news : List Value) (hx : a.eval x = .slice (some ad) m c) (hl : news.length = m * size) (hnews : ∀ j u, news[j]? = some u → w.cell? (ad.add j) = some u)
    (hm : 0 < m) (h63 : m ≤ maxLen) (hbytes : m * bytes ≤ 140737488355328)
    (h : ∀ g cap w', Owns w' e size (.slice (some ⟨g, 0, none⟩) m cap) m news → Below w.heap.size w w' → w.heap.size ≤ g → g < w'.heap.size → 0 < cap → wpList P ops Q rest (a.put o.dst (.slice (some ⟨g, 0, none⟩) m cap)) w') : wpList P ops Q (o :: rest) a w := by
  refine wpList_plain hgd fun K hK => ?_
  obtain ⟨v', w', hr, h2, h3⟩ := run_append_arg_grows (P := P) w t o.type e i z size bytes ht hi hz hsize hby hzs hsz b 0 0 [] (by simp) (by simp) ad m c news hl hnews (by omega) (by omega) (by simpa using hbytes)
  simp only [Nat.zero_add, List.nil_append] at h2
  obtain ⟨g, cap, rfl, hg, hlt⟩ := h2.form (by omega)
  have hc : 0 < cap := by
    rcases h2.2 with ⟨hh, _⟩ | ⟨g', cap', cur, hh, _, _, hcc, _⟩
    · simp at hh
    · simp at hh; omega
  unfold Oper.wp execOp
  simp only [ho, resolve, invoke, builtin, Sem.run_bind, Sem.run_pure, Result.andThen_ok, List.map_toArray, List.map_cons, List.map_nil, hs, hx, hr]
  exact hK _ _ (h g cap w' (Owns.of h2.at0 hc) ⟨h3.os, h3.tape, h3.output, h3.size, fun k hk => h3.block k hk (by simp)⟩ hg hlt hc)
end

theorem row_cleared {P : Program} (w : World) (t e : TypeId) (z : Value) (size : Nat) (ht : P.underlying t = some (.slice e)) (hv : ∀ w, (zeroValue e).run P w = .ok z w) (hz : z.cells.size = size) (h1 : ∀ u ∈ z.cells.toList, u.oneCell' = true) (g n cap c i m : Nat) (xs : List Value)
    (h : w.ownsRow 0 e size (.slice (some ⟨g, 0, none⟩) n cap) n xs) (hi : i + m = n) (hm : 0 < m) :
    ∃ w', (∀ ty, (Builtin.clear_ #[t] ty #[.slice (some ⟨g, i * size, none⟩) m c]).run P w = .ok (.tuple #[]) w') ∧ w'.ownsRow 0 e size (.slice (some ⟨g, 0, none⟩) n cap) n (xs.take (i * size) ++ (Builtin.zeroCells z.cells m).toList) ∧ w.grownBy w' (some g) := by
  subst hi
  rcases h.2 with ⟨h', _⟩ | ⟨g', cap', cur, h', hb, hg, hnc, hcm, hcs, htake⟩
  · simp at h'
  · simp only [Value.slice.injEq, Option.some.injEq, Addr.mk.injEq, and_true, true_and] at h'
    obtain ⟨rfl, rfl⟩ := h'
    have hlen : (Builtin.zeroCells z.cells m).toList.length = m * size := by rw [Array.length_toList, size_zeroCells, hz]
    have hfit : i * size + m * size ≤ cur.size := by rw [hcs, ← Nat.add_mul]; exact Nat.mul_le_mul_right _ hnc
    have hst := run_storeCells_at P g (i * size) e (Builtin.zeroCells z.cells m).toList 0 cur w hg (by rw [hlen]; omega) (by
      intro u hu
      simp only [Builtin.zeroCells, Array.toList_map, List.mem_map] at hu
      obtain ⟨j, hj, rfl⟩ := hu
      simp at hj
      have hpos : 0 < z.cells.size := by
        rcases Nat.eq_zero_or_pos z.cells.size with h0 | h0
        · rw [h0] at hj; omega
        · exact h0
      rw [getElem!_pos z.cells _ (Nat.mod_lt _ hpos)]
      exact h1 _ (by simp))
    simp only [Nat.add_zero, hlen] at hst
    refine ⟨w.setRow g (cur.toList.take (i * size) ++ (Builtin.zeroCells z.cells m).toList ++ cur.toList.drop (i * size + m * size)).toArray, fun ty => ?_, ⟨?_, .inr ⟨g, cap, _, rfl, Nat.zero_le _, setRow_heap w g cur _ e _ hg, hnc, hcm, ?_, ?_⟩⟩, ⟨rfl, rfl, rfl, by simp, fun k _ hk => setRow_other w g k _ (fun e => hk (by simp [e]))⟩⟩
    · obtain ⟨k, rfl⟩ : ∃ k, m = k + 1 := ⟨m - 1, by omega⟩
      simp only [Builtin.clear_, List.getElem?_toArray, List.getElem?_cons_zero, Sem.run_bind, run_underlying ht, Result.andThen_ok, hv, hst, Sem.run_pure]
    · rw [List.length_append, hlen, List.length_take, h.1, Nat.add_mul]
      omega
    · simp only [List.size_toArray, List.length_append, List.length_take, List.length_drop, Array.length_toList, hlen]
      omega
    · simp only [List.toList_toArray]
      have e1 : xs.take (i * size) = cur.toList.take (i * size) := by rw [← htake, List.take_take]; congr 1; rw [Nat.add_mul]; omega
      rw [e1, List.take_append_of_le_length (by rw [List.length_append, hlen, List.length_take, Array.length_toList, Nat.add_mul]; omega)]
      exact List.take_of_length_le (by rw [List.length_append, hlen, List.length_take, Array.length_toList, Nat.add_mul]; omega)
/-- fewer elements of a row -/
theorem row_cut {w : World} {e : TypeId} {size g n i cap : Nat} {xs : List Value} (h : w.ownsRow 0 e size (.slice (some ⟨g, 0, none⟩) n cap) n xs) (hi : i ≤ n) : w.ownsRow 0 e size (.slice (some ⟨g, 0, none⟩) i cap) i (xs.take (i * size)) := by
  rcases h.2 with ⟨h', _⟩ | ⟨g', cap', cur, h', hb, hg, hnc, hcm, hcs, htake⟩
  · simp at h'
  · simp only [Value.slice.injEq, Option.some.injEq, Addr.mk.injEq, and_true, true_and] at h'
    obtain ⟨rfl, rfl⟩ := h'
    have hle : i * size ≤ n * size := Nat.mul_le_mul_right _ hi
    refine ⟨by rw [List.length_take, h.1]; omega, .inr ⟨g, cap, cur, rfl, hb, hg, by omega, hcm, hcs, ?_⟩⟩
    rw [← htake, List.take_take]
    congr 1
    omega
theorem Owns.zb {w : World} {e : TypeId} {size n : Nat} {v : Value} {xs : List Value} (h : Owns w e size v n xs) (hn : 0 < n) : zblock v = v.ownBlock := by
  rcases h with ⟨_, h⟩ | ⟨a, rfl, rfl, rfl⟩
  · exact h
  · omega

end Go.Proofs.YtmdjbmhjnajpgaaDoor
