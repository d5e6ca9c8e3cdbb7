/- The law BlkNil holds of every input that its row speaks of: the call returns true, and what was in memory stays as it was. No condition. -/
import Derived.Test.YtmdjbmhjnajpgaaDoorRows
import Derived.Test.YtmdjbmhjnajpgaaDoorArg
import Derived.Test.YtmdjbmhjnajpgaaDoorKn
import Derived.Test.YtmdjbmhjnajpgaaDoorLaid05
import Derived.Test.YtmdjbmhjnajpgaaDoorTie
import Derived.Test.YtmdjbmhjnajpgaaDoorCards
import Derived.SevenTiedAt
namespace Go.Proofs.YtmdjbmhjnajpgaaDoor.blkNil
open Go.ChangeShapes Go.WideShapes Go.ChangeAt Go.RowKit
open Go.ChangeMaps (open_string shut_string)
set_option linter.unusedVariables false
set_option maxRecDepth 100000 in
theorem lifted (os : Os) (started : os.Started) (H : Type) (enc : TypeId × Value → H) :
    ReturnsInHanded {} Tryd.checked os 4 .any (fun w args => (Rows.blkNilSpec.pre enc Tryd.prog Tryd.f4 [] false w args ∧ laidMetH Tryd.prog laidL w) ∧ sizedMet enc Tryd.prog Tryd.f4 (OpenSpec.ofChange Rows.blkNilSpec) false w args) (Rows.blkNilSpec.post enc Tryd.prog Tryd.f4 false true false false) := by
  refine returnsInHanded_of_change_and (C := Tryd.checked) (X := fun w _ => laidMetH Tryd.prog laidL w) (fun _ _ _ hh h => h.of_heap hh) Tryd.own_ started (by kernel_rfl) Tryd.func4
    (ChangeSpec.witness_shaped (enc := enc) (C := Tryd.checked) (os := os) (X := fun w _ => laidMetH Tryd.prog laidL w) false (World.doorLaid Tryd.prog 400 os) #[.agg #[.slice none 0 0, .int .i64 0, .int .i64 0, .string ByteArray.empty], .string ByteArray.empty] 8 rfl (World.shaped_of_RefB (by kernel_rfl) (by kernel_rfl)) (by kernel_rfl) (by kernel_rfl) (by kernel_rfl) (door_met os _)) ?_
  intro W base args ds gs before hval0 hW hcnd hsz0 hL _
  have hsz : (DataW.weightsEach Tryd.prog (Tryd.f4.params.toList ++ Rows.blkNilSpec.plain.varTypes Tryd.prog) (ds ++ gs)).all (· ≤ reachBytes) = true := hsz0
  have hval : ∀ (j : Nat) t v, Tryd.f4.params[j]? = some t → args[j]? = some v → Value.okWide Tryd.prog W .any base t v := hval0
  have hW' := hW
  obtain ⟨p, q, hA0, hV, rfl, hfz, hnd⟩ := hW
  have hA : DataW.TrodAll enc Tryd.prog W 0 (fun _ => true) true Tryd.f4.params.toList args.toList ds p := hA0
  rw [Tryd.params4] at hA hval hsz
  obtain ⟨v0, vs0, d0, ds0, p0, q0, hargs, rfl, rfl, h0, r0⟩ := trodAll_cons hA
  obtain ⟨v1, vs1, d1, ds1, p1, q1, rfl, rfl, rfl, h1, r1⟩ := trodAll_cons r0
  obtain ⟨rfl, rfl, rfl⟩ := trodAll_nil r1
  obtain rfl : args = #[v0, v1] := by cases args; simp_all
  obtain ⟨rfl, rfl⟩ := trodVars_none hV
  have k0 := h0
  have lt0 : ∀ x ∈ p0, x.block < W.heap.size := by obtain ⟨m, hm⟩ := k0; exact DataW.trod_lt m _ _ _ hm
  obtain ⟨cs0, rfl, _⟩ := okWide_struct Tryd.underlying25 (hval 0 25 v0 rfl rfl)
  obtain ⟨fuel0, f0⟩ := h0
  obtain ⟨a0, g0⟩ := opens_api_Ptr _ _ _ f0
  obtain ⟨v0_0, e0, g0_0, g0_1, g0_2, g0_3⟩ := g0
  obtain rfl : cs0 = #[v0_0, .int .i64 a0.len, .int .i64 a0.birth, .string (bstr a0.sum)] := by apply Array.ext'; simpa [Value.cells] using e0
  obtain ⟨b1, rfl, rfl, rfl, y1⟩ := open_string Tryd.underlying9 (hval 1 9 v1 rfl rfl) h1
  have w1 : b1.data.toList.length ≤ 140737488351232 := sized_string hsz (j := 1) (t := 9) rfl rfl
  obtain ⟨a1, rfl⟩ := bstr_toList b1
  have x1 : a1.length ≤ 140737488351232 := by simpa [bstr] using w1
  clear hA0 hval0 hsz0 hsz
  refine (blkNil_walk W (roots_of hL) a0 v0_0 g0_0 g0_1 g0_2 g0_3 a1 x1).mono fun e W' ⟨he, bel⟩ => ?_
  subst he
  exact ⟨_, rfl, _, _, _, [], _, [], hW', trodAll_mk1 (shut_bool Tryd.underlying4 _), (trodAll_cons_mk (Below.trod Tryd.laidOut_ (by kernel_rfl) (of_decide_eq_true (by kernel_rfl)) k0 bel lt0) (trodAll_cons_mk (shut_string Tryd.underlying9 y1) trodAll_mk0)), rfl, bel.frame _, fun h => by cases h⟩
theorem over : Rows.blkNilRow.holds Tryd.pinned (OpenSpec.ofChange Rows.blkNilSpec) :=
  OpenClaim.holds_of_wide 4 Tryd.f4 rfl rfl rfl rfl rfl rfl rfl ⟨rfl, rfl, rfl, rfl, rfl⟩ rfl rfl rfl rfl rfl (by kernel_rfl) Tryd.func4 (by kernel_rfl)
    (of_decide_eq_true (by kernel_rfl)) (by unfold Func.isWrapper; first | (rw [if_pos (by decide +kernel)]; kernel_rfl) | (rw [if_neg (by decide +kernel)]; exact ⟨rfl, rfl⟩))
    (fun os started H enc _ => lifted os started H enc)
theorem proved : Rows.BlkNilCardSaid :=
  Claim7.holds_tied_plain_at .later [] [.data] true (true, "20b58fc19a6522a7658f05c423f1eb967f941a762261290568976283c1700626") false
    over (fun _ h => by cases h) (by kernel_rfl) (fun _ h => by cases h) blkNil_row_tie rfl ⟨rfl, rfl⟩ (by kernel_rfl) rfl
    (fun f fn hf hfn => by
      obtain rfl : f = 4 := Option.some.inj ((show Tryd.prog.funcNamed Rows.blkNilRow.func = some 4 by kernel_rfl).symm.trans hf) |>.symm
      obtain rfl : fn = Tryd.f4 := (Option.some.inj (Tryd.func4.symm.trans hfn)).symm
      exact ⟨by kernel_rfl, fun j t ht => by
        rw [Tryd.params4] at ht
        have hm : t ∈ [25, 9] := by simpa using Array.mem_of_getElem? ht
        have hall : ([25, 9].all fun u => !Tryd.prog.wantsStandIn u) = true := by kernel_rfl
        exact (show Tryd.prog.wantsStandIn t = false by simpa using List.all_eq_true.1 hall t hm)⟩)
    (by kernel_rfl)
end Go.Proofs.YtmdjbmhjnajpgaaDoor.blkNil
namespace Go.Proofs.YtmdjbmhjnajpgaaDoor
theorem blkNil_holds : Rows.BlkNilCardSaid := blkNil.proved
end Go.Proofs.YtmdjbmhjnajpgaaDoor
