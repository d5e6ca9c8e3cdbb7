/- The law DevCopy holds of every input that its row speaks of: the call returns true, and what was in memory stays as it was. No condition. -/
import Derived.Test.YtmlakbdigbpmaaaRows
import Derived.Test.YtmlakbdigbpmaaaArg
import Derived.Test.YtmlakbdigbpmaaaLaws03f
namespace Go.Proofs.Ytmlakbdigbpmaaa.devCopy
open Go.ChangeShapes Go.WideShapes Go.ChangeAt Go.RowKit
open Go.ChangeMaps (open_string shut_string)
set_option linter.unusedVariables false
set_option maxRecDepth 100000 in
theorem lifted (os : Os) (started : os.Started) (H : Type) (enc : TypeId × Value → H) :
    ReturnsInHanded {} Try.checked os 7 .any (Rows.devCopySpec.pre6 enc Try.prog Try.f7 Rows.devCopyRow.domain false) (Rows.devCopySpec.post enc Try.prog Try.f7 false true false false) := by
  refine returnsInHanded_of_change_sized (C := Try.checked) Try.own_ started (by kernel_rfl) Try.func7
    (ChangeSpec.witness6 (enc := enc) (C := Try.checked) false ⟨#[], #[.slice none 0 0, .slice none 0 0], []⟩ 8 (by kernel_rfl) (by kernel_rfl) (by kernel_rfl) (by kernel_rfl)) ?_
  intro W base args ds gs before hval0 hW hcnd hsz0 _
  have hsz : (DataW.weightsEach Try.prog (Try.f7.params.toList ++ Rows.devCopySpec.plain.varTypes Try.prog) (ds ++ gs)).all (· ≤ reachBytes) = true := hsz0
  have hval : ∀ (j : Nat) t v, Try.f7.params[j]? = some t → args[j]? = some v → Value.okWide Try.prog W .any base t v := hval0
  have hW' := hW
  obtain ⟨p, q, hA0, hV, rfl, hfz, hnd⟩ := hW
  have hA : DataW.TrodAll enc Try.prog W 0 (fun _ => true) true Try.f7.params.toList args.toList ds p := hA0
  rw [Try.params7] at hA hval hsz
  obtain ⟨v0, vs0, d0, ds0, p0, q0, hargs, rfl, rfl, h0, r0⟩ := trodAll_cons hA
  obtain ⟨v1, vs1, d1, ds1, p1, q1, rfl, rfl, rfl, h1, r1⟩ := trodAll_cons r0
  obtain ⟨rfl, rfl, rfl⟩ := trodAll_nil r1
  obtain rfl : args = #[v0, v1] := by cases args; simp_all
  obtain ⟨rfl, rfl⟩ := trodVars_none hV
  have k0 := h0
  have lt0 : ∀ x ∈ p0, x.block < W.heap.size := by obtain ⟨m, hm⟩ := k0; exact DataW.trod_lt m _ _ _ hm
  obtain ⟨A0, n0, c0, rfl⟩ := okWide_slice Try.underlying22 (hval 0 22 v0 rfl rfl)
  obtain ⟨fuel0, f0⟩ := h0
  obtain ⟨a0, g0⟩ := (opens_slice (size := 5) Try.underlying22 opens_permafrostlaw03_Op (by kernel_rfl) (by decide)) _ _ _ f0
  replace g0 : SlAt W.heap.size W (R_permafrostlaw03_Op W.heap.size W) 5 [.slice A0 n0 c0] a0 := by simpa [Value.cells] using g0
  have k1 := h1
  have lt1 : ∀ x ∈ p1, x.block < W.heap.size := by obtain ⟨m, hm⟩ := k1; exact DataW.trod_lt m _ _ _ hm
  obtain ⟨A1, n1, c1, rfl⟩ := okWide_slice Try.underlying22 (hval 1 22 v1 rfl rfl)
  obtain ⟨fuel1, f1⟩ := h1
  obtain ⟨a1, g1⟩ := (opens_slice (size := 5) Try.underlying22 opens_permafrostlaw03_Op (by kernel_rfl) (by decide)) _ _ _ f1
  replace g1 : SlAt W.heap.size W (R_permafrostlaw03_Op W.heap.size W) 5 [.slice A1 n1 c1] a1 := by simpa [Value.cells] using g1
  clear hA0 hval0 hsz0 hsz
  refine (devCopy_walk W _ a0 g0 _ a1 g1).mono fun e W' ⟨he, bel⟩ => ?_
  subst he
  exact ⟨_, rfl, _, _, _, [], _, [], hW', trodAll_mk1 (shut_bool Try.underlying4 _), (trodAll_cons_mk (Below.trod Try.laidOut_ (by kernel_rfl) (of_decide_eq_true (by kernel_rfl)) k0 bel lt0) (trodAll_cons_mk (Below.trod Try.laidOut_ (by kernel_rfl) (of_decide_eq_true (by kernel_rfl)) k1 bel lt1) trodAll_mk0)), rfl, bel.frame _, fun h => by cases h⟩
theorem over : Rows.devCopyRow.holds Try.pinned (OpenSpec.ofChange Rows.devCopySpec) :=
  OpenClaim.holds_of_wide 7 Try.f7 rfl rfl rfl rfl rfl rfl rfl ⟨rfl, rfl, rfl, rfl, rfl⟩ rfl rfl rfl rfl rfl (by kernel_rfl) Try.func7 (by kernel_rfl)
    (of_decide_eq_true (by kernel_rfl)) (by unfold Func.isWrapper; first | (rw [if_pos (by decide +kernel)]; kernel_rfl) | (rw [if_neg (by decide +kernel)]; exact ⟨rfl, rfl⟩))
    (fun os started H enc _ => lifted os started H enc)
theorem proved : Rows.DevCopySaid := over
#print axioms proved
end Go.Proofs.Ytmlakbdigbpmaaa.devCopy
namespace Go.Proofs.Ytmlakbdigbpmaaa
theorem devCopy_holds : Rows.DevCopySaid := devCopy.proved
end Go.Proofs.Ytmlakbdigbpmaaa
