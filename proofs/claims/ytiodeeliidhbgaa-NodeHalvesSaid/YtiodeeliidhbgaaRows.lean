/-
  No cell of these rows narrows 'for every input' (looked for: loops, veiled, ifaces, maps, wideKeys, modest, calm, conditions, laid).
  DERIVED. THE GIVEN ROWS OF THIS SEAT. 7 by the template 'for every input the law returns true; each argument reads behind the call as it read before'; 0 by the template 'total and deterministic' (their statements: YtiodeeliidhbgaaTotals.lean).
  GIVEN WITH THE SEED: the statements are not yours to turn. If you find one false, say at which input.
  Laid BY PROGRAM, IN A SANDBOX (cutbox-rows.mjs): the forced cells as the released guide's own fill.sh prints them over the translation 2b419d095910662b… (all of the seat's roots in one cut). By AI agents, Wed Nov 11 2026. No macro, syntax, notation, axiom, sorry.
-/
import Derived.Test.YtiodeeliidhbgaaChecked
import GoSem.Claim
import GoSem.ClaimJoined
import GoSem.ClaimMapViews
import Derived.JoinedTies
import Derived.KernelRfl
namespace Go.Proofs.Ytiodeeliidhbgaa
/- THE CELL 'sum', in the pinned program and in every row, IS THE sha256 OF THE DUMP (.gsa) THAT YtiodeeliidhbgaaProg.lean LOADS. Nothing in Lean hashes anything: it is a label: what it is worth is what the hold of that sum in a sandbox is worth. -/
noncomputable def Try.pinned : Pinned := { name := "ytiodeeliidhbgaa", sum := "2b419d095910662b983e22bbe93238e9e83a54946618b0cae66a39d6dbdc1055", checked := Try.checked }
namespace Rows
def none {H : Type} : Left H := { results := [], args := [] }

/-- 'permafrostlaw09.NodeTells': WHATEVER THE INPUT: true; the input reads as it did. -/
def nodeTellsSpec : ChangeSpec := { name := "nodeTells", fn := fun _ => fun
  | [d1, d2] => { results := [.lit (.bool true)], args := [d1, d2] }
  | _ => none }
def nodeTellsRow : OpenClaim := { program := "ytiodeeliidhbgaa", sum := "2b419d095910662b983e22bbe93238e9e83a54946618b0cae66a39d6dbdc1055", func := "permafrost/permafrostlaw09.NodeTells", spec := "nodeTells", inPlace := ["slices.overlaps[string]", "internal/abi.NoEscape"], apart := false }
def NodeTellsSaid : Prop := nodeTellsRow.holds Try.pinned (OpenSpec.ofChange nodeTellsSpec)

/-- ITS FALSE NEIGHBOUR: 'it returns false'. Refute it at one input. -/
def nodeTellsWrong : ChangeSpec := { name := "nodeTells", fn := fun _ => fun
  | [d1, d2] => { results := [.lit (.bool false)], args := [d1, d2] }
  | _ => none }
def NodeTellsWrongFalsely : Prop := nodeTellsRow.holds Try.pinned (OpenSpec.ofChange nodeTellsWrong)

/-- 'permafrostlaw09.NodeDecodes': WHATEVER THE INPUT: true; the input reads as it did. -/
def nodeDecodesSpec : ChangeSpec := { name := "nodeDecodes", fn := fun _ => fun
  | [d] => { results := [.lit (.bool true)], args := [d] }
  | _ => none }
def nodeDecodesRow : OpenClaim := { program := "ytiodeeliidhbgaa", sum := "2b419d095910662b983e22bbe93238e9e83a54946618b0cae66a39d6dbdc1055", func := "permafrost/permafrostlaw09.NodeDecodes", spec := "nodeDecodes", inPlace := ["slices.overlaps[string]", "internal/abi.NoEscape"], apart := false }
def NodeDecodesSaid : Prop := nodeDecodesRow.holds Try.pinned (OpenSpec.ofChange nodeDecodesSpec)

/-- ITS FALSE NEIGHBOUR: 'it returns false'. Refute it at one input. -/
def nodeDecodesWrong : ChangeSpec := { name := "nodeDecodes", fn := fun _ => fun
  | [d] => { results := [.lit (.bool false)], args := [d] }
  | _ => none }
def NodeDecodesWrongFalsely : Prop := nodeDecodesRow.holds Try.pinned (OpenSpec.ofChange nodeDecodesWrong)

/-- 'permafrostlaw09.NodeTurns': WHATEVER THE INPUT: true; the input reads as it did. -/
def nodeTurnsSpec : ChangeSpec := { name := "nodeTurns", fn := fun _ => fun
  | [d1, d2, d3] => { results := [.lit (.bool true)], args := [d1, d2, d3] }
  | _ => none }
def nodeTurnsRow : OpenClaim := { program := "ytiodeeliidhbgaa", sum := "2b419d095910662b983e22bbe93238e9e83a54946618b0cae66a39d6dbdc1055", func := "permafrost/permafrostlaw09.NodeTurns", spec := "nodeTurns", inPlace := ["slices.overlaps[string]", "internal/abi.NoEscape"], apart := false }
def NodeTurnsSaid : Prop := nodeTurnsRow.holds Try.pinned (OpenSpec.ofChange nodeTurnsSpec)

/-- ITS FALSE NEIGHBOUR: 'it returns false'. Refute it at one input. -/
def nodeTurnsWrong : ChangeSpec := { name := "nodeTurns", fn := fun _ => fun
  | [d1, d2, d3] => { results := [.lit (.bool false)], args := [d1, d2, d3] }
  | _ => none }
def NodeTurnsWrongFalsely : Prop := nodeTurnsRow.holds Try.pinned (OpenSpec.ofChange nodeTurnsWrong)

/-- 'permafrostlaw09.NodeBack': WHATEVER THE INPUT: true; the input reads as it did. -/
def nodeBackSpec : ChangeSpec := { name := "nodeBack", fn := fun _ => fun
  | [d1, d2] => { results := [.lit (.bool true)], args := [d1, d2] }
  | _ => none }
def nodeBackRow : OpenClaim := { program := "ytiodeeliidhbgaa", sum := "2b419d095910662b983e22bbe93238e9e83a54946618b0cae66a39d6dbdc1055", func := "permafrost/permafrostlaw09.NodeBack", spec := "nodeBack", inPlace := ["slices.overlaps[string]", "internal/abi.NoEscape"], apart := false }
def NodeBackSaid : Prop := nodeBackRow.holds Try.pinned (OpenSpec.ofChange nodeBackSpec)

/-- ITS FALSE NEIGHBOUR: 'it returns false'. Refute it at one input. -/
def nodeBackWrong : ChangeSpec := { name := "nodeBack", fn := fun _ => fun
  | [d1, d2] => { results := [.lit (.bool false)], args := [d1, d2] }
  | _ => none }
def NodeBackWrongFalsely : Prop := nodeBackRow.holds Try.pinned (OpenSpec.ofChange nodeBackWrong)

/-- 'permafrostlaw09.NodeHalves': WHATEVER THE INPUT: true; the input reads as it did. -/
def nodeHalvesSpec : ChangeSpec := { name := "nodeHalves", fn := fun _ => fun
  | [d] => { results := [.lit (.bool true)], args := [d] }
  | _ => none }
def nodeHalvesRow : OpenClaim := { program := "ytiodeeliidhbgaa", sum := "2b419d095910662b983e22bbe93238e9e83a54946618b0cae66a39d6dbdc1055", func := "permafrost/permafrostlaw09.NodeHalves", spec := "nodeHalves", inPlace := ["slices.overlaps[string]", "internal/abi.NoEscape"], apart := false }
def NodeHalvesSaid : Prop := nodeHalvesRow.holds Try.pinned (OpenSpec.ofChange nodeHalvesSpec)

/-- ITS FALSE NEIGHBOUR: 'it returns false'. Refute it at one input. -/
def nodeHalvesWrong : ChangeSpec := { name := "nodeHalves", fn := fun _ => fun
  | [d] => { results := [.lit (.bool false)], args := [d] }
  | _ => none }
def NodeHalvesWrongFalsely : Prop := nodeHalvesRow.holds Try.pinned (OpenSpec.ofChange nodeHalvesWrong)

/-- 'permafrostlaw09.NodeFound': WHATEVER THE INPUT: true; the input reads as it did. -/
def nodeFoundSpec : ChangeSpec := { name := "nodeFound", fn := fun _ => fun
  | [d] => { results := [.lit (.bool true)], args := [d] }
  | _ => none }
def nodeFoundRow : OpenClaim := { program := "ytiodeeliidhbgaa", sum := "2b419d095910662b983e22bbe93238e9e83a54946618b0cae66a39d6dbdc1055", func := "permafrost/permafrostlaw09.NodeFound", spec := "nodeFound", inPlace := ["slices.overlaps[string]", "internal/abi.NoEscape"], apart := false }
def NodeFoundSaid : Prop := nodeFoundRow.holds Try.pinned (OpenSpec.ofChange nodeFoundSpec)

/-- ITS FALSE NEIGHBOUR: 'it returns false'. Refute it at one input. -/
def nodeFoundWrong : ChangeSpec := { name := "nodeFound", fn := fun _ => fun
  | [d] => { results := [.lit (.bool false)], args := [d] }
  | _ => none }
def NodeFoundWrongFalsely : Prop := nodeFoundRow.holds Try.pinned (OpenSpec.ofChange nodeFoundWrong)

/-- 'permafrostlaw09.NodeKeeps': WHATEVER THE INPUT: true; the input reads as it did. -/
def nodeKeepsSpec : ChangeSpec := { name := "nodeKeeps", fn := fun _ => fun
  | [d1, d2, d3] => { results := [.lit (.bool true)], args := [d1, d2, d3] }
  | _ => none }
def nodeKeepsRow : OpenClaim := { program := "ytiodeeliidhbgaa", sum := "2b419d095910662b983e22bbe93238e9e83a54946618b0cae66a39d6dbdc1055", func := "permafrost/permafrostlaw09.NodeKeeps", spec := "nodeKeeps", inPlace := ["slices.overlaps[string]", "internal/abi.NoEscape"], apart := false }
def NodeKeepsSaid : Prop := nodeKeepsRow.holds Try.pinned (OpenSpec.ofChange nodeKeepsSpec)

/-- ITS FALSE NEIGHBOUR: 'it returns false'. Refute it at one input. -/
def nodeKeepsWrong : ChangeSpec := { name := "nodeKeeps", fn := fun _ => fun
  | [d1, d2, d3] => { results := [.lit (.bool false)], args := [d1, d2, d3] }
  | _ => none }
def NodeKeepsWrongFalsely : Prop := nodeKeepsRow.holds Try.pinned (OpenSpec.ofChange nodeKeepsWrong)

/- THE SECOND FORM. 'bulk': how many values and letters a reading holds, each counted each time it is reached (what is shared counts as often as it is met; a slice's spare places count too). A statement '..UptoSaid' is the law's where the arguments, and the package variables that the reading takes, are together of bulk at most 1048576: NARROWER than '..Said'. Prove '..Said' where nothing that the law and all that it calls make is longer than what came in: it says more and counts as full. Else prove '..UptoSaid'. A law counts once. -/
mutual
def uptoBulk {H : Type} : DataW H → Nat
  | .lit (.string bytes) => bytes.length + 1
  | .lit _ => 1
  | .nil => 1
  | .ptr d => uptoBulk d + 1
  | .slice elems spare => uptoBulkAll elems + uptoBulkAll spare + 1
  | .agg parts => uptoBulkAll parts + 1
  | .iface _ d => uptoBulk d + 1
  | .map entries => uptoBulkEntries entries + 1
  | .held _ => 1
def uptoBulkAll {H : Type} : List (DataW H) → Nat
  | [] => 0
  | d :: r => uptoBulk d + uptoBulkAll r
def uptoBulkEntries {H : Type} : List (Lit × DataW H) → Nat
  | [] => 0
  | x :: r => uptoBulkEntry x + uptoBulkEntries r
def uptoBulkEntry {H : Type} : Lit × DataW H → Nat
  | (.string bytes, d) => bytes.length + uptoBulk d + 1
  | (_, d) => uptoBulk d + 1
 end
def uptoSmall : (H : Type) → List (DataW H) → Bool := fun _ ds => decide (uptoBulkAll ds ≤ 1048576)
def OpenSpec.upto (s : _root_.Go.ChangeSpec) : _root_.Go.OpenSpec := { _root_.Go.OpenSpec.ofChange s with cond := some uptoSmall }

/-- 'permafrostlaw09.NodeTells', WHERE WHAT IT READS IS OF BULK AT MOST 1048576: true; the input reads as it did. -/
def nodeTellsUptoRow : OpenClaim := { program := "ytiodeeliidhbgaa", sum := "2b419d095910662b983e22bbe93238e9e83a54946618b0cae66a39d6dbdc1055", func := "permafrost/permafrostlaw09.NodeTells", spec := "nodeTells", inPlace := ["slices.overlaps[string]", "internal/abi.NoEscape"], apart := false, narrowed := true }
def NodeTellsUptoSaid : Prop := nodeTellsUptoRow.holds Try.pinned (OpenSpec.upto nodeTellsSpec)

/-- 'permafrostlaw09.NodeDecodes', WHERE WHAT IT READS IS OF BULK AT MOST 1048576: true; the input reads as it did. -/
def nodeDecodesUptoRow : OpenClaim := { program := "ytiodeeliidhbgaa", sum := "2b419d095910662b983e22bbe93238e9e83a54946618b0cae66a39d6dbdc1055", func := "permafrost/permafrostlaw09.NodeDecodes", spec := "nodeDecodes", inPlace := ["slices.overlaps[string]", "internal/abi.NoEscape"], apart := false, narrowed := true }
def NodeDecodesUptoSaid : Prop := nodeDecodesUptoRow.holds Try.pinned (OpenSpec.upto nodeDecodesSpec)

/-- 'permafrostlaw09.NodeTurns', WHERE WHAT IT READS IS OF BULK AT MOST 1048576: true; the input reads as it did. -/
def nodeTurnsUptoRow : OpenClaim := { program := "ytiodeeliidhbgaa", sum := "2b419d095910662b983e22bbe93238e9e83a54946618b0cae66a39d6dbdc1055", func := "permafrost/permafrostlaw09.NodeTurns", spec := "nodeTurns", inPlace := ["slices.overlaps[string]", "internal/abi.NoEscape"], apart := false, narrowed := true }
def NodeTurnsUptoSaid : Prop := nodeTurnsUptoRow.holds Try.pinned (OpenSpec.upto nodeTurnsSpec)

/-- 'permafrostlaw09.NodeBack', WHERE WHAT IT READS IS OF BULK AT MOST 1048576: true; the input reads as it did. -/
def nodeBackUptoRow : OpenClaim := { program := "ytiodeeliidhbgaa", sum := "2b419d095910662b983e22bbe93238e9e83a54946618b0cae66a39d6dbdc1055", func := "permafrost/permafrostlaw09.NodeBack", spec := "nodeBack", inPlace := ["slices.overlaps[string]", "internal/abi.NoEscape"], apart := false, narrowed := true }
def NodeBackUptoSaid : Prop := nodeBackUptoRow.holds Try.pinned (OpenSpec.upto nodeBackSpec)

/-- 'permafrostlaw09.NodeHalves', WHERE WHAT IT READS IS OF BULK AT MOST 1048576: true; the input reads as it did. -/
def nodeHalvesUptoRow : OpenClaim := { program := "ytiodeeliidhbgaa", sum := "2b419d095910662b983e22bbe93238e9e83a54946618b0cae66a39d6dbdc1055", func := "permafrost/permafrostlaw09.NodeHalves", spec := "nodeHalves", inPlace := ["slices.overlaps[string]", "internal/abi.NoEscape"], apart := false, narrowed := true }
def NodeHalvesUptoSaid : Prop := nodeHalvesUptoRow.holds Try.pinned (OpenSpec.upto nodeHalvesSpec)

/-- 'permafrostlaw09.NodeFound', WHERE WHAT IT READS IS OF BULK AT MOST 1048576: true; the input reads as it did. -/
def nodeFoundUptoRow : OpenClaim := { program := "ytiodeeliidhbgaa", sum := "2b419d095910662b983e22bbe93238e9e83a54946618b0cae66a39d6dbdc1055", func := "permafrost/permafrostlaw09.NodeFound", spec := "nodeFound", inPlace := ["slices.overlaps[string]", "internal/abi.NoEscape"], apart := false, narrowed := true }
def NodeFoundUptoSaid : Prop := nodeFoundUptoRow.holds Try.pinned (OpenSpec.upto nodeFoundSpec)

/-- 'permafrostlaw09.NodeKeeps', WHERE WHAT IT READS IS OF BULK AT MOST 1048576: true; the input reads as it did. -/
def nodeKeepsUptoRow : OpenClaim := { program := "ytiodeeliidhbgaa", sum := "2b419d095910662b983e22bbe93238e9e83a54946618b0cae66a39d6dbdc1055", func := "permafrost/permafrostlaw09.NodeKeeps", spec := "nodeKeeps", inPlace := ["slices.overlaps[string]", "internal/abi.NoEscape"], apart := false, narrowed := true }
def NodeKeepsUptoSaid : Prop := nodeKeepsUptoRow.holds Try.pinned (OpenSpec.upto nodeKeepsSpec)

end Rows
end Go.Proofs.Ytiodeeliidhbgaa
