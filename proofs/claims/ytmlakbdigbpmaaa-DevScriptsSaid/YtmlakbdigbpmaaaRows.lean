/-
  No cell of these rows narrows 'for every input' (looked for: loops, veiled, ifaces, maps, wideKeys, modest, calm, conditions, laid).
  DERIVED. THE GIVEN ROWS OF THIS SEAT. 6 by the template 'for every input the law returns true; each argument reads behind the call as it read before'; 0 by the template 'total and deterministic' (their statements: YtmlakbdigbpmaaaTotals.lean).
  GIVEN WITH THE SEED: the statements are not yours to turn. If you find one false, say at which input.
  Laid BY PROGRAM, IN A SANDBOX (cutbox-rows.mjs): the forced cells as the released guide's own fill.sh prints them over the translation 3a8470ba155a07cf… (all of the seat's roots in one cut). By AI agents, Wed Nov 11 2026. No macro, syntax, notation, axiom, sorry.
-/
import Derived.Test.YtmlakbdigbpmaaaChecked
import GoSem.Claim
import GoSem.ClaimJoined
import GoSem.ClaimMapViews
import Derived.JoinedTies
import Derived.KernelRfl
namespace Go.Proofs.Ytmlakbdigbpmaaa
/- THE CELL 'sum', in the pinned program and in every row, IS THE sha256 OF THE DUMP (.gsa) THAT YtmlakbdigbpmaaaProg.lean LOADS. Nothing in Lean hashes anything: it is a label: what it is worth is what the hold of that sum in a sandbox is worth. -/
noncomputable def Try.pinned : Pinned := { name := "ytmlakbdigbpmaaa", sum := "3a8470ba155a07cf40d225c46e0de4d4468ad4aa0f24e376ab64554500a42353", checked := Try.checked }
namespace Rows
def none {H : Type} : Left H := { results := [], args := [] }

/-- 'permafrostlaw03.DevScripts': WHATEVER THE INPUT: true; the input reads as it did. -/
def devScriptsSpec : ChangeSpec := { name := "devScripts", fn := fun _ => fun
  | [d1, d2, d3] => { results := [.lit (.bool true)], args := [d1, d2, d3] }
  | _ => none }
def devScriptsRow : OpenClaim := { program := "ytmlakbdigbpmaaa", sum := "3a8470ba155a07cf40d225c46e0de4d4468ad4aa0f24e376ab64554500a42353", func := "permafrost/permafrostlaw03.DevScripts", spec := "devScripts", unfollowed := true, recurses := true, apart := false }
def DevScriptsSaid : Prop := devScriptsRow.holds Try.pinned (OpenSpec.ofChange devScriptsSpec)

/-- ITS FALSE NEIGHBOUR: 'it returns false'. Refute it at one input. -/
def devScriptsWrong : ChangeSpec := { name := "devScripts", fn := fun _ => fun
  | [d1, d2, d3] => { results := [.lit (.bool false)], args := [d1, d2, d3] }
  | _ => none }
def DevScriptsWrongFalsely : Prop := devScriptsRow.holds Try.pinned (OpenSpec.ofChange devScriptsWrong)

/-- 'permafrostlaw03.DevFlushed': WHATEVER THE INPUT: true; the input reads as it did. -/
def devFlushedSpec : ChangeSpec := { name := "devFlushed", fn := fun _ => fun
  | [d1, d2, d3] => { results := [.lit (.bool true)], args := [d1, d2, d3] }
  | _ => none }
def devFlushedRow : OpenClaim := { program := "ytmlakbdigbpmaaa", sum := "3a8470ba155a07cf40d225c46e0de4d4468ad4aa0f24e376ab64554500a42353", func := "permafrost/permafrostlaw03.DevFlushed", spec := "devFlushed", unfollowed := true, recurses := true, apart := false }
def DevFlushedSaid : Prop := devFlushedRow.holds Try.pinned (OpenSpec.ofChange devFlushedSpec)

/-- ITS FALSE NEIGHBOUR: 'it returns false'. Refute it at one input. -/
def devFlushedWrong : ChangeSpec := { name := "devFlushed", fn := fun _ => fun
  | [d1, d2, d3] => { results := [.lit (.bool false)], args := [d1, d2, d3] }
  | _ => none }
def DevFlushedWrongFalsely : Prop := devFlushedRow.holds Try.pinned (OpenSpec.ofChange devFlushedWrong)

/-- 'permafrostlaw03.DevLost': WHATEVER THE INPUT: true; the input reads as it did. -/
def devLostSpec : ChangeSpec := { name := "devLost", fn := fun _ => fun
  | [d1, d2] => { results := [.lit (.bool true)], args := [d1, d2] }
  | _ => none }
def devLostRow : OpenClaim := { program := "ytmlakbdigbpmaaa", sum := "3a8470ba155a07cf40d225c46e0de4d4468ad4aa0f24e376ab64554500a42353", func := "permafrost/permafrostlaw03.DevLost", spec := "devLost", unfollowed := true, recurses := true, apart := false }
def DevLostSaid : Prop := devLostRow.holds Try.pinned (OpenSpec.ofChange devLostSpec)

/-- ITS FALSE NEIGHBOUR: 'it returns false'. Refute it at one input. -/
def devLostWrong : ChangeSpec := { name := "devLost", fn := fun _ => fun
  | [d1, d2] => { results := [.lit (.bool false)], args := [d1, d2] }
  | _ => none }
def DevLostWrongFalsely : Prop := devLostRow.holds Try.pinned (OpenSpec.ofChange devLostWrong)

/-- 'permafrostlaw03.DevNil': WHATEVER THE INPUT: true; the input reads as it did. -/
def devNilSpec : ChangeSpec := { name := "devNil", fn := fun _ => fun
  | [d1, d2] => { results := [.lit (.bool true)], args := [d1, d2] }
  | _ => none }
def devNilRow : OpenClaim := { program := "ytmlakbdigbpmaaa", sum := "3a8470ba155a07cf40d225c46e0de4d4468ad4aa0f24e376ab64554500a42353", func := "permafrost/permafrostlaw03.DevNil", spec := "devNil", unfollowed := true, recurses := true, apart := false }
def DevNilSaid : Prop := devNilRow.holds Try.pinned (OpenSpec.ofChange devNilSpec)

/-- ITS FALSE NEIGHBOUR: 'it returns false'. Refute it at one input. -/
def devNilWrong : ChangeSpec := { name := "devNil", fn := fun _ => fun
  | [d1, d2] => { results := [.lit (.bool false)], args := [d1, d2] }
  | _ => none }
def DevNilWrongFalsely : Prop := devNilRow.holds Try.pinned (OpenSpec.ofChange devNilWrong)

/-- 'permafrostlaw03.DevCopy': WHATEVER THE INPUT: true; the input reads as it did. -/
def devCopySpec : ChangeSpec := { name := "devCopy", fn := fun _ => fun
  | [d1, d2] => { results := [.lit (.bool true)], args := [d1, d2] }
  | _ => none }
def devCopyRow : OpenClaim := { program := "ytmlakbdigbpmaaa", sum := "3a8470ba155a07cf40d225c46e0de4d4468ad4aa0f24e376ab64554500a42353", func := "permafrost/permafrostlaw03.DevCopy", spec := "devCopy", unfollowed := true, recurses := true, apart := false }
def DevCopySaid : Prop := devCopyRow.holds Try.pinned (OpenSpec.ofChange devCopySpec)

/-- ITS FALSE NEIGHBOUR: 'it returns false'. Refute it at one input. -/
def devCopyWrong : ChangeSpec := { name := "devCopy", fn := fun _ => fun
  | [d1, d2] => { results := [.lit (.bool false)], args := [d1, d2] }
  | _ => none }
def DevCopyWrongFalsely : Prop := devCopyRow.holds Try.pinned (OpenSpec.ofChange devCopyWrong)

/-- 'permafrostlaw03.DevOrder': WHATEVER THE INPUT: true; the input reads as it did. -/
def devOrderSpec : ChangeSpec := { name := "devOrder", fn := fun _ => fun
  | [d1, d2] => { results := [.lit (.bool true)], args := [d1, d2] }
  | _ => none }
def devOrderRow : OpenClaim := { program := "ytmlakbdigbpmaaa", sum := "3a8470ba155a07cf40d225c46e0de4d4468ad4aa0f24e376ab64554500a42353", func := "permafrost/permafrostlaw03.DevOrder", spec := "devOrder", unfollowed := true, recurses := true, apart := false }
def DevOrderSaid : Prop := devOrderRow.holds Try.pinned (OpenSpec.ofChange devOrderSpec)

/-- ITS FALSE NEIGHBOUR: 'it returns false'. Refute it at one input. -/
def devOrderWrong : ChangeSpec := { name := "devOrder", fn := fun _ => fun
  | [d1, d2] => { results := [.lit (.bool false)], args := [d1, d2] }
  | _ => none }
def DevOrderWrongFalsely : Prop := devOrderRow.holds Try.pinned (OpenSpec.ofChange devOrderWrong)

/- THE SECOND FORM. 'bulk': how many values and letters a reading holds, each counted each time it is reached (what is shared counts as often as it is met; a slice's spare places count too). A statement '..UptoSaid' is the law's where the arguments, and the package variables that the reading takes, are together of bulk at most 1048576: NARROWER than '..Said'. Prove '..Said' where nothing that the law and all that it calls make is longer than what came in: it says more and counts as full. Else prove '..UptoSaid'. A law counts once. -/
mutual
def uptoBulk {H : Type} : DataW H → Nat
  | .lit (.string bytes) => bytes.length + 1
  | .lit _ => 1
  | .nil => 1
  | .ptr d => uptoBulk d + 1
  | .slice elems spare => uptoBulkAll elems + uptoBulkAll spare + 1
  | .agg parts => uptoBulkAll parts + 1
  | .iface _ d => uptoBulk d + 1
  | .map entries => uptoBulkEntries entries + 1
  | .held _ => 1
def uptoBulkAll {H : Type} : List (DataW H) → Nat
  | [] => 0
  | d :: r => uptoBulk d + uptoBulkAll r
def uptoBulkEntries {H : Type} : List (Lit × DataW H) → Nat
  | [] => 0
  | x :: r => uptoBulkEntry x + uptoBulkEntries r
def uptoBulkEntry {H : Type} : Lit × DataW H → Nat
  | (.string bytes, d) => bytes.length + uptoBulk d + 1
  | (_, d) => uptoBulk d + 1
 end
def uptoSmall : (H : Type) → List (DataW H) → Bool := fun _ ds => decide (uptoBulkAll ds ≤ 1048576)
def OpenSpec.upto (s : _root_.Go.ChangeSpec) : _root_.Go.OpenSpec := { _root_.Go.OpenSpec.ofChange s with cond := some uptoSmall }

/-- 'permafrostlaw03.DevScripts', WHERE WHAT IT READS IS OF BULK AT MOST 1048576: true; the input reads as it did. -/
def devScriptsUptoRow : OpenClaim := { program := "ytmlakbdigbpmaaa", sum := "3a8470ba155a07cf40d225c46e0de4d4468ad4aa0f24e376ab64554500a42353", func := "permafrost/permafrostlaw03.DevScripts", spec := "devScripts", unfollowed := true, recurses := true, apart := false, narrowed := true }
def DevScriptsUptoSaid : Prop := devScriptsUptoRow.holds Try.pinned (OpenSpec.upto devScriptsSpec)

/-- 'permafrostlaw03.DevFlushed', WHERE WHAT IT READS IS OF BULK AT MOST 1048576: true; the input reads as it did. -/
def devFlushedUptoRow : OpenClaim := { program := "ytmlakbdigbpmaaa", sum := "3a8470ba155a07cf40d225c46e0de4d4468ad4aa0f24e376ab64554500a42353", func := "permafrost/permafrostlaw03.DevFlushed", spec := "devFlushed", unfollowed := true, recurses := true, apart := false, narrowed := true }
def DevFlushedUptoSaid : Prop := devFlushedUptoRow.holds Try.pinned (OpenSpec.upto devFlushedSpec)

/-- 'permafrostlaw03.DevLost', WHERE WHAT IT READS IS OF BULK AT MOST 1048576: true; the input reads as it did. -/
def devLostUptoRow : OpenClaim := { program := "ytmlakbdigbpmaaa", sum := "3a8470ba155a07cf40d225c46e0de4d4468ad4aa0f24e376ab64554500a42353", func := "permafrost/permafrostlaw03.DevLost", spec := "devLost", unfollowed := true, recurses := true, apart := false, narrowed := true }
def DevLostUptoSaid : Prop := devLostUptoRow.holds Try.pinned (OpenSpec.upto devLostSpec)

/-- 'permafrostlaw03.DevNil', WHERE WHAT IT READS IS OF BULK AT MOST 1048576: true; the input reads as it did. -/
def devNilUptoRow : OpenClaim := { program := "ytmlakbdigbpmaaa", sum := "3a8470ba155a07cf40d225c46e0de4d4468ad4aa0f24e376ab64554500a42353", func := "permafrost/permafrostlaw03.DevNil", spec := "devNil", unfollowed := true, recurses := true, apart := false, narrowed := true }
def DevNilUptoSaid : Prop := devNilUptoRow.holds Try.pinned (OpenSpec.upto devNilSpec)

/-- 'permafrostlaw03.DevCopy', WHERE WHAT IT READS IS OF BULK AT MOST 1048576: true; the input reads as it did. -/
def devCopyUptoRow : OpenClaim := { program := "ytmlakbdigbpmaaa", sum := "3a8470ba155a07cf40d225c46e0de4d4468ad4aa0f24e376ab64554500a42353", func := "permafrost/permafrostlaw03.DevCopy", spec := "devCopy", unfollowed := true, recurses := true, apart := false, narrowed := true }
def DevCopyUptoSaid : Prop := devCopyUptoRow.holds Try.pinned (OpenSpec.upto devCopySpec)

/-- 'permafrostlaw03.DevOrder', WHERE WHAT IT READS IS OF BULK AT MOST 1048576: true; the input reads as it did. -/
def devOrderUptoRow : OpenClaim := { program := "ytmlakbdigbpmaaa", sum := "3a8470ba155a07cf40d225c46e0de4d4468ad4aa0f24e376ab64554500a42353", func := "permafrost/permafrostlaw03.DevOrder", spec := "devOrder", unfollowed := true, recurses := true, apart := false, narrowed := true }
def DevOrderUptoSaid : Prop := devOrderUptoRow.holds Try.pinned (OpenSpec.upto devOrderSpec)

end Rows
end Go.Proofs.Ytmlakbdigbpmaaa
