/- strings.Builder at a seat without WriteString: copyCheck (with its frame), WriteByte, Write, String. -/
import Derived.Test.YtcamcjcmhjldpaaDoorMem
import Derived.Test.YtcamcjcmhjldpaaDoorShelf
import Derived.Lib.Builder
namespace Go.Proofs.YtcamcjcmhjldpaaDoor
open Go.RowKit
set_option maxRecDepth 100000
set_option linter.unusedSimpArgs false
set_option linter.unnecessarySimpa false
set_option linter.unusedVariables false

/-- the builder in block b (from B on) holds the bytes l -/
def BlAt (B : Nat) (w : World) (b : Nat) (l : List UInt8) : Prop := Lib.IsBuilder 109 5 B b (Lib.byteCells l) w

/-- blocks that are no builders and no rows of bytes stay as they were -/
def Others (w w' : World) : Prop := ∀ j cs t, t ≠ 5 → t ≠ 109 → Blk w j t cs → Blk w' j t cs
theorem Blk.type_eq {w : World} {j : Nat} {t t' : TypeId} {cs cs' : Array Value} (h : Blk w j t cs) (h' : Blk w j t' cs') : t = t' := by
  unfold Blk at h h'
  rw [h] at h'
  simp at h'
  exact h'.2
theorem Others.set {w : World} {b : Nat} {cs : Array Value} (h : Blk w b 109 cs) {i : Nat} (u : Value) : Others w (w.setCell ⟨b, i, none⟩ u) :=
  fun j cs' t h1 h2 hj => hj.far (p := ⟨b, i, none⟩) (by rintro rfl; exact h2 (hj.type_eq h)) u
theorem Others.trans {a b c : World} (h : Others a b) (k : Others b c) : Others a c := fun j cs t h1 h2 hj => k j cs t h1 h2 (h j cs t h1 h2 hj)
theorem Others.grown {w w' : World} {base n : Nat} {v : Value} {xs : List Value} (hown : w.ownsRow base 5 1 v n xs) (hg : w.grownBy w' v.ownBlock) : Others w w' := by
  intro j cs t h1 h2 hj
  refine hj.grown hg ?_
  intro e
  rcases hown.2 with ⟨rfl, _⟩ | ⟨g, cap, cur, rfl, _, hc, _⟩
  · simp [Value.ownBlock] at e
  · simp [Value.ownBlock] at e
    subst e
    exact h1 (hj.type_eq hc)
theorem bl_size : (Tryd.prog.info? 109).map (fun i => i.size) = some 2 := by kernel_rfl
theorem bl_byte : (Tryd.prog.info? 5).map (fun i => (i.zero, i.size, i.bytes)) = some (some (.int .u8 0), 1, 1) := by kernel_rfl
set_option maxRecDepth 100000 in
theorem blt_same {w : World} (a : Addr) : (binOp .neq 107 (.pointer (some a)) (.pointer (some a))).run Tryd.prog w = .ok (.bool false) w :=
  have ⟨_, hj⟩ : ∃ j, Tryd.prog.info? 109 = some j := ⟨_, rfl⟩
  Lib.run_neq_ptr_same w a Tryd.underlying107 hj

set_option maxHeartbeats 1000000 in
theorem copyCheck_any (B b : Nat) (bs : List Value) (w : World) (h : Lib.IsBuilder 109 5 B b bs w) :
    Calls Tryd.prog 79 #[.pointer (some ⟨b, 0, none⟩)] w fun e w' => e = .returned (.tuple #[]) ∧ (Lib.BuilderAt 109 5 B b (.pointer (some ⟨b, 0, none⟩)) bs w' ∧ Below B w w' ∧ Others w w') ∧ Keep w.heap.size (· = b) w w' := by
  rcases h with h | h
  · obtain ⟨v0, hb⟩ : ∃ v, Blk w b 109 #[.pointer none, v] := by obtain ⟨_, v, hb, _⟩ := h; exact ⟨v, hb⟩
    have h0 := h.cell0
    have hsh := h.shape
    have hfz := h.frozen0
    go_enter Tryd.func79, Tryd.ntmps79
    go_wp2
    obtain ⟨j, hj, hjs⟩ := Option.map_eq_some_iff.1 bl_size
    rw [Lib.run_to_unsafe w ⟨b, 0, none⟩ Tryd.underlying107 Tryd.underlying130 hj (by rw [hjs]; decide) hsh (Nat.zero_lt_succ 1)]
    simp only [Result.andThen]
    rw [Oper.upon_value]
    go_wp2
    rw [run_callFunc_extern Tryd.func84 (by kernel_rfl) (by kernel_rfl) (by kernel_rfl) (e := Extern.AbiNoEscape.same) (by kernel_rfl)]
    rw [Lib.run_noEscape]
    simp only [Result.andThen]
    rw [Oper.upon_value]
    go_wp2
    rw [Lib.run_from_unsafe w ⟨b, 0, none⟩ Tryd.underlying130 Tryd.underlying107 hj hsh (by kernel_rfl)]
    simp only [Result.andThen]
    rw [Oper.upon_value]
    go_wp2
    go_end0
    exact ⟨rfl, ⟨h.used _, (Below.refl B w).setCell (p := ⟨b, 0, none⟩) h.1 _, Others.set hb _⟩, (Keep.refl _ _ _).set1 0 _⟩
  · have h0 := h.cell0
    go_enter Tryd.func79, Tryd.ntmps79
    go_wp2
    rw [blt_same]
    go_wp2
    go_end0
    exact ⟨rfl, ⟨h, Below.refl B _, fun _ _ _ _ _ h => h⟩, Keep.refl _ _ _⟩

theorem bcells_list (q : List UInt8) : (bcells q).toList = Lib.byteCells q := rfl

set_option maxHeartbeats 1000000 in
theorem bwrite_any (B b g c : Nat) (l q : List UInt8) (hq : 0 < q.length) (w : World) (h : BlAt B w b l) (hg : Blk w g 5 (bcells q)) (hgb : g ≠ b) (hlen : l.length + q.length ≤ 140737488355328) (hBw : B ≤ w.heap.size) :
    Calls Tryd.prog 69 #[.pointer (some ⟨b, 0, none⟩), .slice (some ⟨g, 0, none⟩) q.length c] w fun e w' => e = .returned (.tuple #[.int .i64 q.length, .nilIface]) ∧ BlAt B w' b (l ++ q) ∧ Below B w w' := by
  obtain ⟨i0, hi, hz0, hz1, hz2⟩ := info_parts bl_byte
  obtain ⟨m, hm⟩ : ∃ m, q.length = m := ⟨_, rfl⟩
  rw [hm]
  rw [hm] at hq hlen
  go_enter Tryd.func69, Tryd.ntmps69
  go_wp2_with fail
  refine (copyCheck_any B b (Lib.byteCells l) _ h).mono ?_
  rintro e w1 ⟨rfl, ⟨⟨hB, v, hbk, hown, hne⟩, hb1, ho1⟩, hkp⟩
  have hs1 := hb1.size
  have hsw := hkp.size
  have hg1 : Blk w1 g 5 (bcells q) := hg.keep hkp hg.lt hgb
  have hblt : b < w1.heap.size := Blk.lt hbk
  have c0 : w1.cell? ⟨b, 0, none⟩ = some (.pointer (some ⟨b, 0, none⟩)) := by rw [Lib.cell_of_heap hbk]; rfl
  have c1 : w1.cell? ⟨b, 1, none⟩ = some v := by rw [Lib.cell_of_heap hbk]; rfl
  go_wp2_with (at_builtin; refine wpList_append_own (P := Tryd.prog) _ rfl _ _ 62 rfl B 5 i0 (.int .u8 0) 1 1 Tryd.underlying62 hi hz0 hz1 hz2 rfl (by decide) v l.length (Lib.byteCells l) rfl (by simpa [Lib.byteCells_length] using hown) ⟨g, 0, none⟩ m c (Lib.byteCells q) rfl ?c1 ?c6 ?c2 ?c3 ?c4 ?c5 ?_)
  case c1 => simp [Lib.byteCells_length, hm]
  case c6 =>
    intro j y hj
    have : (⟨g, 0, none⟩ : Addr).add j = ⟨g, j, none⟩ := by unfold Addr.add; split <;> simp_all
    rw [this, hg1.cell, ← hj, ← bcells_list]
    simp
  case c2 => intro y hy; simp [Lib.byteCells] at hy; obtain ⟨_, _, rfl⟩ := hy; rfl
  case c3 => unfold maxLen; omega
  case c4 => omega
  case c5 => omega
  intro v' w2 hown' hgrow _
  have hb2 : w2.heap[b]? = some (.cells #[.pointer (some ⟨b, 0, none⟩), v] 109 (0, 0)) := by
    rw [hgrow.block b hblt (fun e => hne e.symm)]
    exact hbk
  have d0 : w2.cell? ⟨b, 0, none⟩ = some (.pointer (some ⟨b, 0, none⟩)) := by rw [Lib.cell_of_heap hb2]; rfl
  have d1 : w2.cell? ⟨b, 1, none⟩ = some v := by rw [Lib.cell_of_heap hb2]; rfl
  have f1 : w2.frozen? ⟨b, 1, none⟩ = false := Lib.frozen_of_heap hb2 1
  obtain ⟨ao, n', cap, rfl⟩ : ∃ ao n' cap, v' = .slice ao n' cap := by
    rcases hown'.2 with ⟨hv, _⟩ | ⟨g, cap, cur, hv, _⟩
    · exact ⟨_, _, _, hv⟩
    · exact ⟨_, _, _, hv⟩
  go_wp2
  refine bodyPost_ret (v := .tuple #[.int .i64 m, .nilIface]) (by simp [results, Tryd.results69, go_sem]) rfl ⟨rfl, ?_, (hb1.grown hgrow (by omega) (fun k hk => (hown.lt k hk).1)).setCell (p := ⟨b, 1, none⟩) hB _⟩
  have hh := Lib.BuilderAt.put (T := 109) (e := 5) hB hb2 (v' := .slice ao n' cap) (bs' := Lib.byteCells l ++ Lib.byteCells q) (by simpa [Lib.byteCells_length, hm] using hown') (by decide)
  rw [← Lib.byteCells_append] at hh
  exact .inr hh

theorem bstring_any (B b : Nat) (l : List UInt8) (w : World) (h : BlAt B w b l) (hBw : B ≤ w.heap.size) :
    Calls Tryd.prog 70 #[.pointer (some ⟨b, 0, none⟩)] w fun e w' => e = .returned (.string (bstr l)) ∧ Below B w w' :=
  Tryd.Builder_String_any B b l w h hBw
theorem BlAt.new (w : World) : BlAt w.heap.size (w.alloc (.cells #[.pointer none, .slice none 0 0] 109)) w.heap.size [] := Lib.fresh_isBuilder _ _ _
theorem BlAt.lt {B b : Nat} {w : World} {l : List UInt8} (h : BlAt B w b l) : B ≤ b ∧ b < w.heap.size := by
  rcases h with h | h
  · exact ⟨h.1, h.lt⟩
  · exact ⟨h.1, h.lt⟩
theorem own_below {w w' : World} {base n size : Nat} {e : TypeId} {v : Value} {xs : List Value} (h : w.ownsRow base e size v n xs) (hb : Below w.heap.size w w') : w'.ownsRow base e size v n xs := by
  refine ⟨h.1, ?_⟩
  rcases h.2 with h0 | ⟨g, cap, cur, hv, hg, hc, hr⟩
  · exact .inl h0
  · exact .inr ⟨g, cap, cur, hv, hg, (hb.block g (Blk.lt hc)).trans hc, hr⟩
theorem BlAt.below {B b : Nat} {w w' : World} {l : List UInt8} (h : BlAt B w b l) (hb : Below w.heap.size w w') : BlAt B w' b l := by
  rcases h with ⟨hB, v, h1, h2, h3⟩ | ⟨hB, v, h1, h2, h3⟩
  · have hlt : b < w.heap.size := Blk.lt h1
    exact .inl ⟨hB, v, (hb.block b hlt).trans h1, own_below h2 hb, h3⟩
  · have hlt : b < w.heap.size := Blk.lt h1
    exact .inr ⟨hB, v, (hb.block b hlt).trans h1, own_below h2 hb, h3⟩

end Go.Proofs.YtcamcjcmhjldpaaDoor
