/- Package dev: slices.Clone, Copy: contracts. -/
import Derived.Test.YtcamcjcmhjldpaaDoorDvE
namespace Go.Proofs.YtcamcjcmhjldpaaDoor
open Go.RowKit
set_option linter.unusedSimpArgs false
set_option linter.unnecessarySimpa false
set_option linter.unusedVariables false

theorem row_cells {w : World} {e : TypeId} {size b n c : Nat} {xs : List Value} (h : w.ownsRow 0 e size (.slice (some ⟨b, 0, none⟩) n c) n xs) : ∀ j u, xs[j]? = some u → w.cell? ((⟨b, 0, none⟩ : Addr).add j) = some u := h.cells rfl
theorem str_info : (Tryd.prog.info? 9).map (fun i => (i.zero, i.size, i.bytes)) = some (some (.string ⟨#[]⟩), 1, 16) := by kernel_rfl








end Go.Proofs.YtcamcjcmhjldpaaDoor
