/- The law HeatForgets holds of every input that its row speaks of: the call returns true, and what was in memory stays as it was. No condition. -/
import Derived.Test.YtefobchpcdniiaaRows
import Derived.Test.YtefobchpcdniiaaArg
import Derived.Test.YtefobchpcdniiaaHlf
namespace Go.Proofs.Ytefobchpcdniiaa.heatForgets
open Go.ChangeShapes Go.WideShapes Go.ChangeAt Go.RowKit
open Go.ChangeMaps (open_string shut_string)
set_option linter.unusedVariables false
set_option maxRecDepth 100000 in
theorem lifted (os : Os) (started : os.Started) (H : Type) (enc : TypeId × Value → H) :
    ReturnsInHanded {} Try.checked os 8 .any (Rows.heatForgetsSpec.pre6 enc Try.prog Try.f8 Rows.heatForgetsRow.domain false) (Rows.heatForgetsSpec.post enc Try.prog Try.f8 false true false false) := by
  refine returnsInHanded_of_change_sized (C := Try.checked) Try.own_ started (by kernel_rfl) Try.func8
    (ChangeSpec.witness6 (enc := enc) (C := Try.checked) false ⟨#[], #[.agg #[.slice none 0 0, .string ByteArray.empty, .string ByteArray.empty, .int .i64 0]], []⟩ 8 (by kernel_rfl) (by kernel_rfl) (by kernel_rfl) (by kernel_rfl)) ?_
  intro W base args ds gs before hval0 hW hcnd hsz0 _
  have hsz : (DataW.weightsEach Try.prog (Try.f8.params.toList ++ Rows.heatForgetsSpec.plain.varTypes Try.prog) (ds ++ gs)).all (· ≤ reachBytes) = true := hsz0
  have hval : ∀ (j : Nat) t v, Try.f8.params[j]? = some t → args[j]? = some v → Value.okWide Try.prog W .any base t v := hval0
  have hW' := hW
  obtain ⟨p, q, hA0, hV, rfl, hfz, hnd⟩ := hW
  have hA : DataW.TrodAll enc Try.prog W 0 (fun _ => true) true Try.f8.params.toList args.toList ds p := hA0
  rw [Try.params8] at hA hval hsz
  obtain ⟨v0, vs0, d0, ds0, p0, q0, hargs, rfl, rfl, h0, r0⟩ := trodAll_cons hA
  obtain ⟨rfl, rfl, rfl⟩ := trodAll_nil r0
  obtain rfl : args = #[v0] := by cases args; simp_all
  obtain ⟨rfl, rfl⟩ := trodVars_none hV
  have k0 := h0
  have lt0 : ∀ x ∈ p0, x.block < W.heap.size := by obtain ⟨m, hm⟩ := k0; exact DataW.trod_lt m _ _ _ hm
  obtain ⟨cs0, rfl, _⟩ := okWide_struct Try.underlying45 (hval 0 45 v0 rfl rfl)
  obtain ⟨fuel0, f0⟩ := h0
  obtain ⟨a0, g0⟩ := opens_permafrostlaw12_Gone _ _ _ f0
  obtain ⟨v0_0, e0, g0_0, g0_1, g0_2, g0_3⟩ := g0
  obtain rfl : cs0 = #[v0_0, .string (bstr a0.key), .string (bstr a0.other), .int .i64 a0.now] := by apply Array.ext'; simpa [Value.cells] using e0
  clear hA0 hval0 hsz0 hsz
  refine (heatForgets_walk W a0 v0_0 g0_0 g0_1 g0_2 g0_3).mono fun e W' ⟨he, bel⟩ => ?_
  subst he
  exact ⟨_, rfl, _, _, _, [], _, [], hW', trodAll_mk1 (shut_bool Try.underlying4 _), (trodAll_cons_mk (Below.trod Try.laidOut_ (by kernel_rfl) (of_decide_eq_true (by kernel_rfl)) k0 bel lt0) trodAll_mk0), rfl, bel.frame _, fun h => by cases h⟩
theorem over : Rows.heatForgetsRow.holds Try.pinned (OpenSpec.ofChange Rows.heatForgetsSpec) :=
  OpenClaim.holds_of_wide 8 Try.f8 rfl rfl rfl rfl rfl rfl rfl ⟨rfl, rfl, rfl, rfl, rfl⟩ rfl rfl rfl rfl rfl (by kernel_rfl) Try.func8 (by kernel_rfl)
    (of_decide_eq_true (by kernel_rfl)) (by unfold Func.isWrapper; first | (rw [if_pos (by decide +kernel)]; kernel_rfl) | (rw [if_neg (by decide +kernel)]; exact ⟨rfl, rfl⟩))
    (fun os started H enc _ => lifted os started H enc)
theorem proved : Rows.HeatForgetsSaid := over
#print axioms proved
end Go.Proofs.Ytefobchpcdniiaa.heatForgets
namespace Go.Proofs.Ytefobchpcdniiaa
theorem heatForgets_holds : Rows.HeatForgetsSaid := heatForgets.proved
end Go.Proofs.Ytefobchpcdniiaa
