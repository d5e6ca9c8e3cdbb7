/- strings.Builder at this seat: WriteByte. -/
import Derived.Test.YtiodeeliidhbgaaBl
namespace Go.Proofs.Ytiodeeliidhbgaa
open Go.RowKit
set_option linter.unusedSimpArgs false
set_option linter.unnecessarySimpa false
set_option linter.unusedVariables false

theorem bcells_list (q : List UInt8) : (bcells q).toList = Lib.byteCells q := rfl
set_option maxHeartbeats 1000000 in
theorem wbyte_any (B b : Nat) (l : List UInt8) (c : UInt8) (w : World) (h : BlAt B w b l) (hlen : l.length + 1 ≤ 140737488355328) (hBw : B ≤ w.heap.size) :
    Calls Try.prog 33 #[.pointer (some ⟨b, 0, none⟩), .int .u8 c.toNat] w fun e w' => e = .returned .nilIface ∧ BlAt B w' b (l ++ [c]) ∧ Below B w w' := by
  go_enter Try.func33, Try.ntmps33
  go_wp2_with fail
  refine (copyCheck_any B b (Lib.byteCells l) _ h).mono ?_
  rintro e w1 ⟨rfl, ⟨hB, v, hbk, hown, hne⟩, hb1, ho1⟩
  have hs1 := hb1.size
  have hblt : b < w1.heap.size := Blk.lt hbk
  have c0 : w1.cell? ⟨b, 0, none⟩ = some (.pointer (some ⟨b, 0, none⟩)) := by rw [Lib.cell_of_heap hbk]; rfl
  have c1 : w1.cell? ⟨b, 1, none⟩ = some v := by rw [Lib.cell_of_heap hbk]; rfl
  go_wp2_with (at_builtin; refine wpList_app (P := Try.prog) w1 rfl _ _ 61 rfl B 5 (.int .u8 0) 1 1 Try.underlying61 bl_byte rfl (by decide) v l.length (Lib.byteCells l) rfl (by simpa [Lib.byteCells_length] using hown) [.int .u8 c.toNat] rfl rfl ?c2 ?c3 ?c4 ?c5 ?_)
  case c2 => intro y hy; simp at hy; subst hy; rfl
  case c3 => unfold maxLen; omega
  case c4 => omega
  case c5 => omega
  intro v' w2 hown' hgrow hbel
  have hb2 : w2.heap[b]? = some (.cells #[.pointer (some ⟨b, 0, none⟩), v] 63 (0, 0)) := by
    rw [hgrow.block b (by simp; omega) (fun e => hne e.symm)]
    exact (Blk.alloc hbk _)
  have d0 : w2.cell? ⟨b, 0, none⟩ = some (.pointer (some ⟨b, 0, none⟩)) := by rw [Lib.cell_of_heap hb2]; rfl
  have d1 : w2.cell? ⟨b, 1, none⟩ = some v := by rw [Lib.cell_of_heap hb2]; rfl
  have f1 : w2.frozen? ⟨b, 1, none⟩ = false := Lib.frozen_of_heap hb2 1
  obtain ⟨ao, n', cap, rfl⟩ : ∃ ao n' cap, v' = .slice ao n' cap := by
    rcases hown'.2 with ⟨hv, _⟩ | ⟨g, cap, cur, hv, _⟩
    · exact ⟨_, _, _, hv⟩
    · exact ⟨_, _, _, hv⟩
  go_wp2
  go_ret
  refine ⟨rfl, ?_, (hb1.trans hbel).setCell (p := ⟨b, 1, none⟩) hB _⟩
  have hh := Lib.BuilderAt.put (T := 63) (e := 5) hB hb2 (v' := .slice ao n' cap) (bs' := Lib.byteCells l ++ Lib.byteCells [c]) (by simpa [Lib.byteCells_length, Lib.byteCells] using hown') (by decide)
  rw [← Lib.byteCells_append] at hh
  exact .inr hh

end Go.Proofs.Ytiodeeliidhbgaa
