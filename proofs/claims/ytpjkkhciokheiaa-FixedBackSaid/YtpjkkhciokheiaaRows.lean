/-
  No cell of these rows narrows 'for every input' (looked for: loops, veiled, ifaces, maps, wideKeys, modest, calm, conditions, laid).
  DERIVED. THE GIVEN ROWS OF THIS SEAT. 5 by the template 'for every input the law returns true; each argument reads behind the call as it read before'; 0 by the template 'total and deterministic' (their statements: YtpjkkhciokheiaaTotals.lean).
  GIVEN WITH THE SEED: the statements are not yours to turn. If you find one false, say at which input.
  Laid BY PROGRAM, IN A SANDBOX (cutbox-rows.mjs): the forced cells as the released guide's own fill.sh prints them over the translation 34e78b0a443d05d9… (all of the seat's roots in one cut). By AI agents, Wed Nov 11 2026. No macro, syntax, notation, axiom, sorry.
-/
import Derived.Test.YtpjkkhciokheiaaChecked
import GoSem.Claim
import GoSem.ClaimJoined
import GoSem.ClaimMapViews
import Derived.JoinedTies
import Derived.KernelRfl
namespace Go.Proofs.Ytpjkkhciokheiaa
/- THE CELL 'sum', in the pinned program and in every row, IS THE sha256 OF THE DUMP (.gsa) THAT YtpjkkhciokheiaaProg.lean LOADS. Nothing in Lean hashes anything: it is a label: what it is worth is what the hold of that sum in a sandbox is worth. -/
noncomputable def Try.pinned : Pinned := { name := "ytpjkkhciokheiaa", sum := "34e78b0a443d05d9c39d814b9e153c169d06ae261e565f17bcbc79d610d97ce2", checked := Try.checked }
namespace Rows
def none {H : Type} : Left H := { results := [], args := [] }

/-- 'permafrostlaw01.FixedPuts': WHATEVER THE INPUT: true; the input reads as it did. -/
def fixedPutsSpec : ChangeSpec := { name := "fixedPuts", fn := fun _ => fun
  | [d1, d2, d3] => { results := [.lit (.bool true)], args := [d1, d2, d3] }
  | _ => none }
def fixedPutsRow : OpenClaim := { program := "ytpjkkhciokheiaa", sum := "34e78b0a443d05d9c39d814b9e153c169d06ae261e565f17bcbc79d610d97ce2", func := "permafrost/permafrostlaw01.FixedPuts", spec := "fixedPuts", apart := false }
def FixedPutsSaid : Prop := fixedPutsRow.holds Try.pinned (OpenSpec.ofChange fixedPutsSpec)

/-- ITS FALSE NEIGHBOUR: 'it returns false'. Refute it at one input. -/
def fixedPutsWrong : ChangeSpec := { name := "fixedPuts", fn := fun _ => fun
  | [d1, d2, d3] => { results := [.lit (.bool false)], args := [d1, d2, d3] }
  | _ => none }
def FixedPutsWrongFalsely : Prop := fixedPutsRow.holds Try.pinned (OpenSpec.ofChange fixedPutsWrong)

/-- 'permafrostlaw01.FixedBack': WHATEVER THE INPUT: true; the input reads as it did. -/
def fixedBackSpec : ChangeSpec := { name := "fixedBack", fn := fun _ => fun
  | [d1, d2, d3] => { results := [.lit (.bool true)], args := [d1, d2, d3] }
  | _ => none }
def fixedBackRow : OpenClaim := { program := "ytpjkkhciokheiaa", sum := "34e78b0a443d05d9c39d814b9e153c169d06ae261e565f17bcbc79d610d97ce2", func := "permafrost/permafrostlaw01.FixedBack", spec := "fixedBack", apart := false }
def FixedBackSaid : Prop := fixedBackRow.holds Try.pinned (OpenSpec.ofChange fixedBackSpec)

/-- ITS FALSE NEIGHBOUR: 'it returns false'. Refute it at one input. -/
def fixedBackWrong : ChangeSpec := { name := "fixedBack", fn := fun _ => fun
  | [d1, d2, d3] => { results := [.lit (.bool false)], args := [d1, d2, d3] }
  | _ => none }
def FixedBackWrongFalsely : Prop := fixedBackRow.holds Try.pinned (OpenSpec.ofChange fixedBackWrong)

/-- 'permafrostlaw01.FixedCut': WHATEVER THE INPUT: true; the input reads as it did. -/
def fixedCutSpec : ChangeSpec := { name := "fixedCut", fn := fun _ => fun
  | [d1, d2, d3] => { results := [.lit (.bool true)], args := [d1, d2, d3] }
  | _ => none }
def fixedCutRow : OpenClaim := { program := "ytpjkkhciokheiaa", sum := "34e78b0a443d05d9c39d814b9e153c169d06ae261e565f17bcbc79d610d97ce2", func := "permafrost/permafrostlaw01.FixedCut", spec := "fixedCut", apart := false }
def FixedCutSaid : Prop := fixedCutRow.holds Try.pinned (OpenSpec.ofChange fixedCutSpec)

/-- ITS FALSE NEIGHBOUR: 'it returns false'. Refute it at one input. -/
def fixedCutWrong : ChangeSpec := { name := "fixedCut", fn := fun _ => fun
  | [d1, d2, d3] => { results := [.lit (.bool false)], args := [d1, d2, d3] }
  | _ => none }
def FixedCutWrongFalsely : Prop := fixedCutRow.holds Try.pinned (OpenSpec.ofChange fixedCutWrong)

/-- 'permafrostlaw01.FixedNil': WHATEVER THE INPUT: true; the input reads as it did. -/
def fixedNilSpec : ChangeSpec := { name := "fixedNil", fn := fun _ => fun
  | [d] => { results := [.lit (.bool true)], args := [d] }
  | _ => none }
def fixedNilRow : OpenClaim := { program := "ytpjkkhciokheiaa", sum := "34e78b0a443d05d9c39d814b9e153c169d06ae261e565f17bcbc79d610d97ce2", func := "permafrost/permafrostlaw01.FixedNil", spec := "fixedNil", apart := false }
def FixedNilSaid : Prop := fixedNilRow.holds Try.pinned (OpenSpec.ofChange fixedNilSpec)

/-- ITS FALSE NEIGHBOUR: 'it returns false'. Refute it at one input. -/
def fixedNilWrong : ChangeSpec := { name := "fixedNil", fn := fun _ => fun
  | [d] => { results := [.lit (.bool false)], args := [d] }
  | _ => none }
def FixedNilWrongFalsely : Prop := fixedNilRow.holds Try.pinned (OpenSpec.ofChange fixedNilWrong)

/-- 'permafrostlaw01.FixedLow': WHATEVER THE INPUT: true; the input reads as it did. -/
def fixedLowSpec : ChangeSpec := { name := "fixedLow", fn := fun _ => fun
  | [d1, d2] => { results := [.lit (.bool true)], args := [d1, d2] }
  | _ => none }
def fixedLowRow : OpenClaim := { program := "ytpjkkhciokheiaa", sum := "34e78b0a443d05d9c39d814b9e153c169d06ae261e565f17bcbc79d610d97ce2", func := "permafrost/permafrostlaw01.FixedLow", spec := "fixedLow", apart := false }
def FixedLowSaid : Prop := fixedLowRow.holds Try.pinned (OpenSpec.ofChange fixedLowSpec)

/-- ITS FALSE NEIGHBOUR: 'it returns false'. Refute it at one input. -/
def fixedLowWrong : ChangeSpec := { name := "fixedLow", fn := fun _ => fun
  | [d1, d2] => { results := [.lit (.bool false)], args := [d1, d2] }
  | _ => none }
def FixedLowWrongFalsely : Prop := fixedLowRow.holds Try.pinned (OpenSpec.ofChange fixedLowWrong)

/- THE SECOND FORM. 'bulk': how many values and letters a reading holds, each counted each time it is reached (what is shared counts as often as it is met; a slice's spare places count too). A statement '..UptoSaid' is the law's where the arguments, and the package variables that the reading takes, are together of bulk at most 1048576: NARROWER than '..Said'. Prove '..Said' where nothing that the law and all that it calls make is longer than what came in: it says more and counts as full. Else prove '..UptoSaid'. A law counts once. -/
mutual
def uptoBulk {H : Type} : DataW H → Nat
  | .lit (.string bytes) => bytes.length + 1
  | .lit _ => 1
  | .nil => 1
  | .ptr d => uptoBulk d + 1
  | .slice elems spare => uptoBulkAll elems + uptoBulkAll spare + 1
  | .agg parts => uptoBulkAll parts + 1
  | .iface _ d => uptoBulk d + 1
  | .map entries => uptoBulkEntries entries + 1
  | .held _ => 1
def uptoBulkAll {H : Type} : List (DataW H) → Nat
  | [] => 0
  | d :: r => uptoBulk d + uptoBulkAll r
def uptoBulkEntries {H : Type} : List (Lit × DataW H) → Nat
  | [] => 0
  | x :: r => uptoBulkEntry x + uptoBulkEntries r
def uptoBulkEntry {H : Type} : Lit × DataW H → Nat
  | (.string bytes, d) => bytes.length + uptoBulk d + 1
  | (_, d) => uptoBulk d + 1
 end
def uptoSmall : (H : Type) → List (DataW H) → Bool := fun _ ds => decide (uptoBulkAll ds ≤ 1048576)
def OpenSpec.upto (s : _root_.Go.ChangeSpec) : _root_.Go.OpenSpec := { _root_.Go.OpenSpec.ofChange s with cond := some uptoSmall }

/-- 'permafrostlaw01.FixedPuts', WHERE WHAT IT READS IS OF BULK AT MOST 1048576: true; the input reads as it did. -/
def fixedPutsUptoRow : OpenClaim := { program := "ytpjkkhciokheiaa", sum := "34e78b0a443d05d9c39d814b9e153c169d06ae261e565f17bcbc79d610d97ce2", func := "permafrost/permafrostlaw01.FixedPuts", spec := "fixedPuts", apart := false, narrowed := true }
def FixedPutsUptoSaid : Prop := fixedPutsUptoRow.holds Try.pinned (OpenSpec.upto fixedPutsSpec)

/-- 'permafrostlaw01.FixedBack', WHERE WHAT IT READS IS OF BULK AT MOST 1048576: true; the input reads as it did. -/
def fixedBackUptoRow : OpenClaim := { program := "ytpjkkhciokheiaa", sum := "34e78b0a443d05d9c39d814b9e153c169d06ae261e565f17bcbc79d610d97ce2", func := "permafrost/permafrostlaw01.FixedBack", spec := "fixedBack", apart := false, narrowed := true }
def FixedBackUptoSaid : Prop := fixedBackUptoRow.holds Try.pinned (OpenSpec.upto fixedBackSpec)

/-- 'permafrostlaw01.FixedCut', WHERE WHAT IT READS IS OF BULK AT MOST 1048576: true; the input reads as it did. -/
def fixedCutUptoRow : OpenClaim := { program := "ytpjkkhciokheiaa", sum := "34e78b0a443d05d9c39d814b9e153c169d06ae261e565f17bcbc79d610d97ce2", func := "permafrost/permafrostlaw01.FixedCut", spec := "fixedCut", apart := false, narrowed := true }
def FixedCutUptoSaid : Prop := fixedCutUptoRow.holds Try.pinned (OpenSpec.upto fixedCutSpec)

/-- 'permafrostlaw01.FixedNil', WHERE WHAT IT READS IS OF BULK AT MOST 1048576: true; the input reads as it did. -/
def fixedNilUptoRow : OpenClaim := { program := "ytpjkkhciokheiaa", sum := "34e78b0a443d05d9c39d814b9e153c169d06ae261e565f17bcbc79d610d97ce2", func := "permafrost/permafrostlaw01.FixedNil", spec := "fixedNil", apart := false, narrowed := true }
def FixedNilUptoSaid : Prop := fixedNilUptoRow.holds Try.pinned (OpenSpec.upto fixedNilSpec)

/-- 'permafrostlaw01.FixedLow', WHERE WHAT IT READS IS OF BULK AT MOST 1048576: true; the input reads as it did. -/
def fixedLowUptoRow : OpenClaim := { program := "ytpjkkhciokheiaa", sum := "34e78b0a443d05d9c39d814b9e153c169d06ae261e565f17bcbc79d610d97ce2", func := "permafrost/permafrostlaw01.FixedLow", spec := "fixedLow", apart := false, narrowed := true }
def FixedLowUptoSaid : Prop := fixedLowUptoRow.holds Try.pinned (OpenSpec.upto fixedLowSpec)

end Rows
end Go.Proofs.Ytpjkkhciokheiaa
