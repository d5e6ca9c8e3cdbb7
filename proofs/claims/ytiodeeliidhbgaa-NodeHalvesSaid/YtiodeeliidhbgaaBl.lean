/- strings.Builder at this seat: a builder of the call's own, the bytes that it holds; copyCheck, WriteString, String. -/
import Derived.Test.YtiodeeliidhbgaaMem
import Derived.Test.YtiodeeliidhbgaaShelf
import Derived.Lib.Builder
namespace Go.Proofs.Ytiodeeliidhbgaa
open Go.RowKit
set_option linter.unusedSimpArgs false
set_option linter.unnecessarySimpa false
set_option linter.unusedVariables false

/-- the builder in block b (from B on) holds the bytes l -/
def BlAt (B : Nat) (w : World) (b : Nat) (l : List UInt8) : Prop := Lib.IsBuilder 63 5 B b (Lib.byteCells l) w

/-- blocks that are no builders and no rows of bytes stay as they were -/
def Others (w w' : World) : Prop := ∀ j cs t, t ≠ 5 → t ≠ 63 → Blk w j t cs → Blk w' j t cs
theorem Blk.type_eq {w : World} {j : Nat} {t t' : TypeId} {cs cs' : Array Value} (h : Blk w j t cs) (h' : Blk w j t' cs') : t = t' := by
  unfold Blk at h h'
  rw [h] at h'
  simp at h'
  exact h'.2
theorem Others.set {w : World} {b : Nat} {cs : Array Value} (h : Blk w b 63 cs) {i : Nat} (u : Value) : Others w (w.setCell ⟨b, i, none⟩ u) :=
  fun j cs' t h1 h2 hj => hj.far (p := ⟨b, i, none⟩) (by rintro rfl; exact h2 (hj.type_eq h)) u
theorem Others.trans {a b c : World} (h : Others a b) (k : Others b c) : Others a c := fun j cs t h1 h2 hj => k j cs t h1 h2 (h j cs t h1 h2 hj)
theorem Others.grown {w w' : World} {base n : Nat} {v : Value} {xs : List Value} (hown : w.ownsRow base 5 1 v n xs) (hg : w.grownBy w' v.ownBlock) : Others w w' := by
  intro j cs t h1 h2 hj
  refine hj.grown hg ?_
  intro e
  rcases hown.2 with ⟨rfl, _⟩ | ⟨g, cap, cur, rfl, _, hc, _⟩
  · simp [Value.ownBlock] at e
  · simp [Value.ownBlock] at e
    subst e
    exact h1 (hj.type_eq hc)
theorem bl_size : (Try.prog.info? 63).map (fun i => i.size) = some 2 := by kernel_rfl
theorem bl_byte : (Try.prog.info? 5).map (fun i => (i.zero, i.size, i.bytes)) = some (some (.int .u8 0), 1, 1) := by kernel_rfl
theorem blt_same {w : World} (a : Addr) : (binOp .neq 60 (.pointer (some a)) (.pointer (some a))).run Try.prog w = .ok (.bool false) w :=
  have ⟨_, hj⟩ : ∃ j, Try.prog.info? 63 = some j := ⟨_, rfl⟩
  Lib.run_neq_ptr_same w a Try.underlying60 hj

set_option maxHeartbeats 1000000 in
theorem copyCheck_any (B b : Nat) (bs : List Value) (w : World) (h : Lib.IsBuilder 63 5 B b bs w) :
    Calls Try.prog 56 #[.pointer (some ⟨b, 0, none⟩)] w fun e w' => e = .returned (.tuple #[]) ∧ (Lib.BuilderAt 63 5 B b (.pointer (some ⟨b, 0, none⟩)) bs w' ∧ Below B w w' ∧ Others w w') := by
  rcases h with h | h
  · obtain ⟨v0, hb⟩ : ∃ v, Blk w b 63 #[.pointer none, v] := by obtain ⟨_, v, hb, _⟩ := h; exact ⟨v, hb⟩
    have h0 := h.cell0
    have hsh := h.shape
    have hfz := h.frozen0
    go_enter Try.func56, Try.ntmps56
    go_wp2
    obtain ⟨j, hj, hjs⟩ := Option.map_eq_some_iff.1 bl_size
    rw [Lib.run_to_unsafe w ⟨b, 0, none⟩ Try.underlying60 Try.underlying94 hj (by rw [hjs]; decide) hsh (Nat.zero_lt_succ 1)]
    simp only [Result.andThen]
    rw [Oper.upon_value]
    go_wp2
    rw [run_callFunc_extern Try.func65 (by kernel_rfl) (by kernel_rfl) (by kernel_rfl) (e := Extern.AbiNoEscape.same) (by kernel_rfl)]
    rw [Lib.run_noEscape]
    simp only [Result.andThen]
    rw [Oper.upon_value]
    go_wp2
    rw [Lib.run_from_unsafe w ⟨b, 0, none⟩ Try.underlying94 Try.underlying60 hj hsh (by kernel_rfl)]
    simp only [Result.andThen]
    rw [Oper.upon_value]
    go_wp2
    go_end0
    exact ⟨rfl, h.used _, (Below.refl B w).setCell (p := ⟨b, 0, none⟩) h.1 _, Others.set hb _⟩
  · have h0 := h.cell0
    go_enter Try.func56, Try.ntmps56
    go_wp2
    rw [blt_same]
    go_wp2
    go_end0
    exact ⟨rfl, h, Below.refl B _, fun _ _ _ _ _ h => h⟩

set_option maxHeartbeats 1000000 in
theorem wstr_any (B b : Nat) (l s : List UInt8) (w : World) (h : BlAt B w b l) (hlen : l.length + s.length ≤ 140737488355328) (hBw : B ≤ w.heap.size) :
    Calls Try.prog 34 #[.pointer (some ⟨b, 0, none⟩), .string (bstr s)] w fun e w' => e = .returned (.tuple #[.int .i64 s.length, .nilIface]) ∧ BlAt B w' b (l ++ s) ∧ Below B w w' ∧ Others w w' := by
  obtain ⟨i0, hi, hz0, hz1, hz2⟩ := info_parts bl_byte
  have hsz : (bstr s).size = s.length := by simp [bstr, ByteArray.size]
  have hst : Lib.strCells (bstr s) = Lib.byteCells s := by rw [Lib.strCells_eq]
  go_enter Try.func34, Try.ntmps34
  go_wp2_with fail
  refine (copyCheck_any B b (Lib.byteCells l) _ h).mono ?_
  rintro e w1 ⟨rfl, ⟨hB, v, hbk, hown, hne⟩, hb1, ho1⟩
  have hs1 := hb1.size
  have hblt : b < w1.heap.size := Blk.lt hbk
  have c0 : w1.cell? ⟨b, 0, none⟩ = some (.pointer (some ⟨b, 0, none⟩)) := by rw [Lib.cell_of_heap hbk]; rfl
  have c1 : w1.cell? ⟨b, 1, none⟩ = some v := by rw [Lib.cell_of_heap hbk]; rfl
  go_wp2_with (at_builtin; refine Lib.wpList_append_own_string _ rfl _ _ 61 9 rfl B 5 i0 Try.underlying61 Try.underlying9 hi hz0 hz1 hz2 _ _ _ rfl hown (bstr s) rfl ?c3 ?c4 ?c5 ?_)
  case c3 => rw [Lib.byteCells_length, hsz]; unfold maxLen; omega
  case c4 => rw [Lib.byteCells_length, hsz]; omega
  case c5 => omega
  intro v' w2 hown' hgrow _
  have hb2 : w2.heap[b]? = some (.cells #[.pointer (some ⟨b, 0, none⟩), v] 63 (0, 0)) := by
    rw [hgrow.block b hblt (fun e => hne e.symm)]
    exact hbk
  have d0 : w2.cell? ⟨b, 0, none⟩ = some (.pointer (some ⟨b, 0, none⟩)) := by rw [Lib.cell_of_heap hb2]; rfl
  have d1 : w2.cell? ⟨b, 1, none⟩ = some v := by rw [Lib.cell_of_heap hb2]; rfl
  have f1 : w2.frozen? ⟨b, 1, none⟩ = false := Lib.frozen_of_heap hb2 1
  obtain ⟨ao, n', cap, rfl⟩ : ∃ ao n' cap, v' = .slice ao n' cap := by
    rcases hown'.2 with ⟨hv, _⟩ | ⟨g, cap, cur, hv, _⟩
    · exact ⟨_, _, _, hv⟩
    · exact ⟨_, _, _, hv⟩
  go_wp2
  refine bodyPost_ret (v := .tuple #[.int .i64 s.length, .nilIface]) (by simp [results, Try.results34, go_sem, hsz]) rfl ⟨rfl, ?_, ?_, (ho1.trans (Others.grown hown hgrow)).trans (Others.set hb2 _)⟩
  · have hh := Lib.BuilderAt.put (T := 63) (e := 5) hB hb2 (v' := .slice ao n' cap) (bs' := Lib.byteCells l ++ Lib.byteCells s) (by
      first | (rw [hst] at hown'; simpa [Lib.byteCells_length, hsz] using hown') | simpa [Lib.byteCells_length, hsz] using hown') (by decide)
    rw [← Lib.byteCells_append] at hh
    exact .inr hh
  · exact (hb1.grown hgrow (by omega) (fun k hk => (hown.lt k hk).1)).setCell (p := ⟨b, 1, none⟩) hB _

theorem bstring_any (B b : Nat) (l : List UInt8) (w : World) (h : BlAt B w b l) (hBw : B ≤ w.heap.size) :
    Calls Try.prog 37 #[.pointer (some ⟨b, 0, none⟩)] w fun e w' => e = .returned (.string (bstr l)) ∧ Below B w w' :=
  Try.Builder_String_any B b l w h hBw
theorem BlAt.new (w : World) : BlAt w.heap.size (w.alloc (.cells #[.pointer none, .slice none 0 0] 63)) w.heap.size [] := Lib.fresh_isBuilder _ _ _
theorem BlAt.lt {B b : Nat} {w : World} {l : List UInt8} (h : BlAt B w b l) : B ≤ b ∧ b < w.heap.size := by
  rcases h with h | h
  · exact ⟨h.1, h.lt⟩
  · exact ⟨h.1, h.lt⟩
theorem own_below {w w' : World} {base n size : Nat} {e : TypeId} {v : Value} {xs : List Value} (h : w.ownsRow base e size v n xs) (hb : Below w.heap.size w w') : w'.ownsRow base e size v n xs := by
  refine ⟨h.1, ?_⟩
  rcases h.2 with h0 | ⟨g, cap, cur, hv, hg, hc, hr⟩
  · exact .inl h0
  · exact .inr ⟨g, cap, cur, hv, hg, (hb.block g (Blk.lt hc)).trans hc, hr⟩
theorem BlAt.below {B b : Nat} {w w' : World} {l : List UInt8} (h : BlAt B w b l) (hb : Below w.heap.size w w') : BlAt B w' b l := by
  rcases h with ⟨hB, v, h1, h2, h3⟩ | ⟨hB, v, h1, h2, h3⟩
  · have hlt : b < w.heap.size := Blk.lt h1
    exact .inl ⟨hB, v, (hb.block b hlt).trans h1, own_below h2 hb, h3⟩
  · have hlt : b < w.heap.size := Blk.lt h1
    exact .inr ⟨hB, v, (hb.block b hlt).trans h1, own_below h2 hb, h3⟩

end Go.Proofs.Ytiodeeliidhbgaa
