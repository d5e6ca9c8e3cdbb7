/- The law BlkVerified holds of every input that its row speaks of: the call returns true, and what was in memory stays as it was. No condition. -/
import Derived.Test.YtmdjbmhjnajpgaaDoorRows
import Derived.Test.YtmdjbmhjnajpgaaDoorArg
import Derived.Test.YtmdjbmhjnajpgaaDoorKo
import Derived.Test.YtmdjbmhjnajpgaaDoorLaid05
import Derived.Test.YtmdjbmhjnajpgaaDoorTie
import Derived.Test.YtmdjbmhjnajpgaaDoorCards
import Derived.SevenTiedAt
namespace Go.Proofs.YtmdjbmhjnajpgaaDoor.blkVerified
open Go.ChangeShapes Go.WideShapes Go.ChangeAt Go.RowKit
open Go.ChangeMaps (open_string shut_string)
set_option linter.unusedVariables false
set_option maxRecDepth 100000 in
theorem lifted (os : Os) (started : os.Started) (H : Type) (enc : TypeId × Value → H) :
    ReturnsInHanded {} Tryd.checked os 3 .any (fun w args => (Rows.blkVerifiedSpec.pre enc Tryd.prog Tryd.f3 [] false w args ∧ laidMetH Tryd.prog laidL w) ∧ sizedMet enc Tryd.prog Tryd.f3 (OpenSpec.ofChange Rows.blkVerifiedSpec) false w args) (Rows.blkVerifiedSpec.post enc Tryd.prog Tryd.f3 false true false false) := by
  refine returnsInHanded_of_change_and (C := Tryd.checked) (X := fun w _ => laidMetH Tryd.prog laidL w) (fun _ _ _ hh h => h.of_heap hh) Tryd.own_ started (by kernel_rfl) Tryd.func3
    (ChangeSpec.witness_shaped (enc := enc) (C := Tryd.checked) (os := os) (X := fun w _ => laidMetH Tryd.prog laidL w) false (World.doorLaid Tryd.prog 400 os) #[.string ByteArray.empty, .slice none 0 0, .agg #[.slice none 0 0, .int .i64 0, .int .i64 0, .string ByteArray.empty]] 8 rfl (World.shaped_of_RefB (by kernel_rfl) (by kernel_rfl)) (by kernel_rfl) (by kernel_rfl) (by kernel_rfl) (door_met os _)) ?_
  intro W base args ds gs before hval0 hW hcnd hsz0 hL _
  have hsz : (DataW.weightsEach Tryd.prog (Tryd.f3.params.toList ++ Rows.blkVerifiedSpec.plain.varTypes Tryd.prog) (ds ++ gs)).all (· ≤ reachBytes) = true := hsz0
  have hval : ∀ (j : Nat) t v, Tryd.f3.params[j]? = some t → args[j]? = some v → Value.okWide Tryd.prog W .any base t v := hval0
  have hW' := hW
  obtain ⟨p, q, hA0, hV, rfl, hfz, hnd⟩ := hW
  have hA : DataW.TrodAll enc Tryd.prog W 0 (fun _ => true) true Tryd.f3.params.toList args.toList ds p := hA0
  rw [Tryd.params3] at hA hval hsz
  obtain ⟨v0, vs0, d0, ds0, p0, q0, hargs, rfl, rfl, h0, r0⟩ := trodAll_cons hA
  obtain ⟨v1, vs1, d1, ds1, p1, q1, rfl, rfl, rfl, h1, r1⟩ := trodAll_cons r0
  obtain ⟨v2, vs2, d2, ds2, p2, q2, rfl, rfl, rfl, h2, r2⟩ := trodAll_cons r1
  obtain ⟨rfl, rfl, rfl⟩ := trodAll_nil r2
  obtain rfl : args = #[v0, v1, v2] := by cases args; simp_all
  obtain ⟨rfl, rfl⟩ := trodVars_none hV
  obtain ⟨b0, rfl, rfl, rfl, y0⟩ := open_string Tryd.underlying9 (hval 0 9 v0 rfl rfl) h0
  have w0 : b0.data.toList.length ≤ 140737488351232 := sized_string hsz (j := 0) (t := 9) rfl rfl
  obtain ⟨a0, rfl⟩ := bstr_toList b0
  have x0 : a0.length ≤ 140737488351232 := by simpa [bstr] using w0
  have k1 := h1
  have lt1 : ∀ x ∈ p1, x.block < W.heap.size := by obtain ⟨m, hm⟩ := k1; exact DataW.trod_lt m _ _ _ hm
  obtain ⟨A1, n1, c1, rfl⟩ := okWide_slice Tryd.underlying22 (hval 1 22 v1 rfl rfl)
  obtain ⟨fuel1, f1⟩ := h1
  obtain ⟨a1, g1⟩ := (opens_slice (size := 8) Tryd.underlying22 opens_permafrostlaw05_Op (by kernel_rfl) (by decide)) _ _ _ f1
  replace g1 : SlAt W.heap.size W (R_permafrostlaw05_Op W.heap.size W) 8 [.slice A1 n1 c1] a1 := by simpa [Value.cells] using g1
  have k2 := h2
  have lt2 : ∀ x ∈ p2, x.block < W.heap.size := by obtain ⟨m, hm⟩ := k2; exact DataW.trod_lt m _ _ _ hm
  obtain ⟨cs2, rfl, _⟩ := okWide_struct Tryd.underlying25 (hval 2 25 v2 rfl rfl)
  obtain ⟨fuel2, f2⟩ := h2
  obtain ⟨a2, g2⟩ := opens_api_Ptr _ _ _ f2
  obtain ⟨v2_0, e2, g2_0, g2_1, g2_2, g2_3⟩ := g2
  obtain rfl : cs2 = #[v2_0, .int .i64 a2.len, .int .i64 a2.birth, .string (bstr a2.sum)] := by apply Array.ext'; simpa [Value.cells] using e2
  clear hA0 hval0 hsz0 hsz
  refine (blkVerified_walk W (roots_of hL) a0 x0 _ a1 g1 a2 v2_0 g2_0 g2_1 g2_2 g2_3).mono fun e W' ⟨he, bel⟩ => ?_
  subst he
  exact ⟨_, rfl, _, _, _, [], _, [], hW', trodAll_mk1 (shut_bool Tryd.underlying4 _), (trodAll_cons_mk (shut_string Tryd.underlying9 y0) (trodAll_cons_mk (Below.trod Tryd.laidOut_ (by kernel_rfl) (of_decide_eq_true (by kernel_rfl)) k1 bel lt1) (trodAll_cons_mk (Below.trod Tryd.laidOut_ (by kernel_rfl) (of_decide_eq_true (by kernel_rfl)) k2 bel lt2) trodAll_mk0))), rfl, bel.frame _, fun h => by cases h⟩
theorem over : Rows.blkVerifiedRow.holds Tryd.pinned (OpenSpec.ofChange Rows.blkVerifiedSpec) :=
  OpenClaim.holds_of_wide 3 Tryd.f3 rfl rfl rfl rfl rfl rfl rfl ⟨rfl, rfl, rfl, rfl, rfl⟩ rfl rfl rfl rfl rfl (by kernel_rfl) Tryd.func3 (by kernel_rfl)
    (of_decide_eq_true (by kernel_rfl)) (by unfold Func.isWrapper; first | (rw [if_pos (by decide +kernel)]; kernel_rfl) | (rw [if_neg (by decide +kernel)]; exact ⟨rfl, rfl⟩))
    (fun os started H enc _ => lifted os started H enc)
theorem proved : Rows.BlkVerifiedCardSaid :=
  Claim7.holds_tied_plain_at .later [] [.data] true (true, "20b58fc19a6522a7658f05c423f1eb967f941a762261290568976283c1700626") false
    over (fun _ h => by cases h) (by kernel_rfl) (fun _ h => by cases h) blkVerified_row_tie rfl ⟨rfl, rfl⟩ (by kernel_rfl) rfl
    (fun f fn hf hfn => by
      obtain rfl : f = 3 := Option.some.inj ((show Tryd.prog.funcNamed Rows.blkVerifiedRow.func = some 3 by kernel_rfl).symm.trans hf) |>.symm
      obtain rfl : fn = Tryd.f3 := (Option.some.inj (Tryd.func3.symm.trans hfn)).symm
      exact ⟨by kernel_rfl, fun j t ht => by
        rw [Tryd.params3] at ht
        have hm : t ∈ [9, 22, 25] := by simpa using Array.mem_of_getElem? ht
        have hall : ([9, 22, 25].all fun u => !Tryd.prog.wantsStandIn u) = true := by kernel_rfl
        exact (show Tryd.prog.wantsStandIn t = false by simpa using List.all_eq_true.1 hall t hm)⟩)
    (by kernel_rfl)
end Go.Proofs.YtmdjbmhjnajpgaaDoor.blkVerified
namespace Go.Proofs.YtmdjbmhjnajpgaaDoor
theorem blkVerified_holds : Rows.BlkVerifiedCardSaid := blkVerified.proved
end Go.Proofs.YtmdjbmhjnajpgaaDoor
