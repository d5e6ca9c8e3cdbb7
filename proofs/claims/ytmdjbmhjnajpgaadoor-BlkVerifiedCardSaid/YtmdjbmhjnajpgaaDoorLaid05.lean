/- The table of package sum as the row lists it: what a walk reads of it. -/
import Derived.Test.YtmdjbmhjnajpgaaDoorRows
import Derived.Test.YtmdjbmhjnajpgaaDoorSm5
import Derived.Lib.LaidTab
import Derived.ProofKit
import Derived.LaidMore
import Derived.OpenShut
import Derived.Stop.Joined
namespace Go.Proofs.YtmdjbmhjnajpgaaDoor
open Go.ChangeShapes Go.WideShapes Go.ChangeAt Go.WideMaps Go.WideElems Go.RowKit
set_option maxRecDepth 100000
def laidL : List (String × DataW Unit) := [("permafrost/sum.roots", Rows.laid_permafrost_sum_roots)]
def rootsZ : List Int := rootsW.map u
theorem laid_tab : (Rows.laid_permafrost_sum_roots : DataW Unit) = Lib.tabData .u32 rootsZ := by rfl
theorem gRoots : Tryd.prog.globalNamed "permafrost/sum.roots" = some 0 := by kernel_rfl
theorem tRoots : (Tryd.prog.globals[0]?).map (·.type) = some 112 := by kernel_rfl
theorem door_met (os : Os) (args : Array Value) : laidMetH Tryd.prog laidL ((World.doorLaid Tryd.prog 400 os).forCall (fun _ _ => 0) ⟨#[], args, []⟩).memory :=
  laidMetH_of_parts3 (fuel := 8) (laidMet_of_run' 8 (by kernel_rfl) (by kernel_rfl)) (by kernel_rfl) (by kernel_rfl)
theorem roots_of {W : World} (h : laidMetH Tryd.prog laidL W) : RootsAt W := by
  rw [MakeChecks.laidMetH_plain _ _ _ (by kernel_rfl)] at h
  have hT : Lib.TabIs Tryd.prog W "permafrost/sum.roots" .u32 rootsZ := Lib.tabIs_of_head gRoots tRoots Tryd.underlying112 Tryd.underlying90 (by kernel_rfl) (by kernel_rfl) (by rw [← laid_tab]; exact h)
  have hc : ∀ i < 64, W.cell? ⟨0, i, none⟩ = some (.int .u32 (u (rootsW.getD i 0))) := by
    intro i hi
    rw [hT.cell gRoots i (by simpa [rootsZ, rootsW] using hi)]
    have : rootsZ.getD i 0 = u (rootsW.getD i 0) := by
      have hl : i < rootsW.length := hi
      simp [rootsZ, List.getD, hl]
    rw [this]
  refine ⟨?_, hc⟩
  have h0 := hc 0 (by decide)
  refine Nat.pos_of_ne_zero fun e => ?_
  have : W.heap[0]? = none := by rw [Array.getElem?_eq_none]; omega
  simp [World.cell?, this] at h0
end Go.Proofs.YtmdjbmhjnajpgaaDoor
