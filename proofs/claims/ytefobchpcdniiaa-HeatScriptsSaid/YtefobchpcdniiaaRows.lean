/-
  No cell of these rows narrows 'for every input' (looked for: loops, veiled, ifaces, maps, wideKeys, modest, calm, conditions, laid).
  DERIVED. THE GIVEN ROWS OF THIS SEAT. 6 by the template 'for every input the law returns true; each argument reads behind the call as it read before'; 0 by the template 'total and deterministic' (their statements: YtefobchpcdniiaaTotals.lean).
  GIVEN WITH THE SEED: the statements are not yours to turn. If you find one false, say at which input.
  Laid BY PROGRAM, IN A SANDBOX (cutbox-rows.mjs): the forced cells as the released guide's own fill.sh prints them over the translation c185e564455f3526… (all of the seat's roots in one cut). By AI agents, Wed Nov 11 2026. No macro, syntax, notation, axiom, sorry.
-/
import Derived.Test.YtefobchpcdniiaaChecked
import GoSem.Claim
import GoSem.ClaimJoined
import GoSem.ClaimMapViews
import Derived.JoinedTies
import Derived.KernelRfl
namespace Go.Proofs.Ytefobchpcdniiaa
/- THE CELL 'sum', in the pinned program and in every row, IS THE sha256 OF THE DUMP (.gsa) THAT YtefobchpcdniiaaProg.lean LOADS. Nothing in Lean hashes anything: it is a label: what it is worth is what the hold of that sum in a sandbox is worth. -/
noncomputable def Try.pinned : Pinned := { name := "ytefobchpcdniiaa", sum := "c185e564455f35267827a0ba2b12a546abfefc41a261b2a66447239cc4e21daa", checked := Try.checked }
namespace Rows
def none {H : Type} : Left H := { results := [], args := [] }

/-- 'permafrostlaw12.HeatScripts': WHATEVER THE INPUT: true; the input reads as it did. -/
def heatScriptsSpec : ChangeSpec := { name := "heatScripts", fn := fun _ => fun
  | [d] => { results := [.lit (.bool true)], args := [d] }
  | _ => none }
def heatScriptsRow : OpenClaim := { program := "ytefobchpcdniiaa", sum := "c185e564455f35267827a0ba2b12a546abfefc41a261b2a66447239cc4e21daa", func := "permafrost/permafrostlaw12.HeatScripts", spec := "heatScripts", unfollowed := true, recurses := true, apart := false }
def HeatScriptsSaid : Prop := heatScriptsRow.holds Try.pinned (OpenSpec.ofChange heatScriptsSpec)

/-- ITS FALSE NEIGHBOUR: 'it returns false'. Refute it at one input. -/
def heatScriptsWrong : ChangeSpec := { name := "heatScripts", fn := fun _ => fun
  | [d] => { results := [.lit (.bool false)], args := [d] }
  | _ => none }
def HeatScriptsWrongFalsely : Prop := heatScriptsRow.holds Try.pinned (OpenSpec.ofChange heatScriptsWrong)

/-- 'permafrostlaw12.HeatFades': WHATEVER THE INPUT: true; the input reads as it did. -/
def heatFadesSpec : ChangeSpec := { name := "heatFades", fn := fun _ => fun
  | [d1, d2, d3] => { results := [.lit (.bool true)], args := [d1, d2, d3] }
  | _ => none }
def heatFadesRow : OpenClaim := { program := "ytefobchpcdniiaa", sum := "c185e564455f35267827a0ba2b12a546abfefc41a261b2a66447239cc4e21daa", func := "permafrost/permafrostlaw12.HeatFades", spec := "heatFades", unfollowed := true, recurses := true, apart := false }
def HeatFadesSaid : Prop := heatFadesRow.holds Try.pinned (OpenSpec.ofChange heatFadesSpec)

/-- ITS FALSE NEIGHBOUR: 'it returns false'. Refute it at one input. -/
def heatFadesWrong : ChangeSpec := { name := "heatFades", fn := fun _ => fun
  | [d1, d2, d3] => { results := [.lit (.bool false)], args := [d1, d2, d3] }
  | _ => none }
def HeatFadesWrongFalsely : Prop := heatFadesRow.holds Try.pinned (OpenSpec.ofChange heatFadesWrong)

/-- 'permafrostlaw12.HeatHot': WHATEVER THE INPUT: true; the input reads as it did. -/
def heatHotSpec : ChangeSpec := { name := "heatHot", fn := fun _ => fun
  | [d1, d2, d3] => { results := [.lit (.bool true)], args := [d1, d2, d3] }
  | _ => none }
def heatHotRow : OpenClaim := { program := "ytefobchpcdniiaa", sum := "c185e564455f35267827a0ba2b12a546abfefc41a261b2a66447239cc4e21daa", func := "permafrost/permafrostlaw12.HeatHot", spec := "heatHot", unfollowed := true, recurses := true, apart := false }
def HeatHotSaid : Prop := heatHotRow.holds Try.pinned (OpenSpec.ofChange heatHotSpec)

/-- ITS FALSE NEIGHBOUR: 'it returns false'. Refute it at one input. -/
def heatHotWrong : ChangeSpec := { name := "heatHot", fn := fun _ => fun
  | [d1, d2, d3] => { results := [.lit (.bool false)], args := [d1, d2, d3] }
  | _ => none }
def HeatHotWrongFalsely : Prop := heatHotRow.holds Try.pinned (OpenSpec.ofChange heatHotWrong)

/-- 'permafrostlaw12.HeatNil': WHATEVER THE INPUT: true; the input reads as it did. -/
def heatNilSpec : ChangeSpec := { name := "heatNil", fn := fun _ => fun
  | [d1, d2] => { results := [.lit (.bool true)], args := [d1, d2] }
  | _ => none }
def heatNilRow : OpenClaim := { program := "ytefobchpcdniiaa", sum := "c185e564455f35267827a0ba2b12a546abfefc41a261b2a66447239cc4e21daa", func := "permafrost/permafrostlaw12.HeatNil", spec := "heatNil", unfollowed := true, recurses := true, apart := false }
def HeatNilSaid : Prop := heatNilRow.holds Try.pinned (OpenSpec.ofChange heatNilSpec)

/-- ITS FALSE NEIGHBOUR: 'it returns false'. Refute it at one input. -/
def heatNilWrong : ChangeSpec := { name := "heatNil", fn := fun _ => fun
  | [d1, d2] => { results := [.lit (.bool false)], args := [d1, d2] }
  | _ => none }
def HeatNilWrongFalsely : Prop := heatNilRow.holds Try.pinned (OpenSpec.ofChange heatNilWrong)

/-- 'permafrostlaw12.HeatOrder': WHATEVER THE INPUT: true; the input reads as it did. -/
def heatOrderSpec : ChangeSpec := { name := "heatOrder", fn := fun _ => fun
  | [d1, d2, d3] => { results := [.lit (.bool true)], args := [d1, d2, d3] }
  | _ => none }
def heatOrderRow : OpenClaim := { program := "ytefobchpcdniiaa", sum := "c185e564455f35267827a0ba2b12a546abfefc41a261b2a66447239cc4e21daa", func := "permafrost/permafrostlaw12.HeatOrder", spec := "heatOrder", unfollowed := true, recurses := true, apart := false }
def HeatOrderSaid : Prop := heatOrderRow.holds Try.pinned (OpenSpec.ofChange heatOrderSpec)

/-- ITS FALSE NEIGHBOUR: 'it returns false'. Refute it at one input. -/
def heatOrderWrong : ChangeSpec := { name := "heatOrder", fn := fun _ => fun
  | [d1, d2, d3] => { results := [.lit (.bool false)], args := [d1, d2, d3] }
  | _ => none }
def HeatOrderWrongFalsely : Prop := heatOrderRow.holds Try.pinned (OpenSpec.ofChange heatOrderWrong)

/-- 'permafrostlaw12.HeatForgets': WHATEVER THE INPUT: true; the input reads as it did. -/
def heatForgetsSpec : ChangeSpec := { name := "heatForgets", fn := fun _ => fun
  | [d] => { results := [.lit (.bool true)], args := [d] }
  | _ => none }
def heatForgetsRow : OpenClaim := { program := "ytefobchpcdniiaa", sum := "c185e564455f35267827a0ba2b12a546abfefc41a261b2a66447239cc4e21daa", func := "permafrost/permafrostlaw12.HeatForgets", spec := "heatForgets", unfollowed := true, recurses := true, apart := false }
def HeatForgetsSaid : Prop := heatForgetsRow.holds Try.pinned (OpenSpec.ofChange heatForgetsSpec)

/-- ITS FALSE NEIGHBOUR: 'it returns false'. Refute it at one input. -/
def heatForgetsWrong : ChangeSpec := { name := "heatForgets", fn := fun _ => fun
  | [d] => { results := [.lit (.bool false)], args := [d] }
  | _ => none }
def HeatForgetsWrongFalsely : Prop := heatForgetsRow.holds Try.pinned (OpenSpec.ofChange heatForgetsWrong)

/- THE SECOND FORM. 'bulk': how many values and letters a reading holds, each counted each time it is reached (what is shared counts as often as it is met; a slice's spare places count too). A statement '..UptoSaid' is the law's where the arguments, and the package variables that the reading takes, are together of bulk at most 1048576: NARROWER than '..Said'. Prove '..Said' where nothing that the law and all that it calls make is longer than what came in: it says more and counts as full. Else prove '..UptoSaid'. A law counts once. -/
mutual
def uptoBulk {H : Type} : DataW H → Nat
  | .lit (.string bytes) => bytes.length + 1
  | .lit _ => 1
  | .nil => 1
  | .ptr d => uptoBulk d + 1
  | .slice elems spare => uptoBulkAll elems + uptoBulkAll spare + 1
  | .agg parts => uptoBulkAll parts + 1
  | .iface _ d => uptoBulk d + 1
  | .map entries => uptoBulkEntries entries + 1
  | .held _ => 1
def uptoBulkAll {H : Type} : List (DataW H) → Nat
  | [] => 0
  | d :: r => uptoBulk d + uptoBulkAll r
def uptoBulkEntries {H : Type} : List (Lit × DataW H) → Nat
  | [] => 0
  | x :: r => uptoBulkEntry x + uptoBulkEntries r
def uptoBulkEntry {H : Type} : Lit × DataW H → Nat
  | (.string bytes, d) => bytes.length + uptoBulk d + 1
  | (_, d) => uptoBulk d + 1
 end
def uptoSmall : (H : Type) → List (DataW H) → Bool := fun _ ds => decide (uptoBulkAll ds ≤ 1048576)
def OpenSpec.upto (s : _root_.Go.ChangeSpec) : _root_.Go.OpenSpec := { _root_.Go.OpenSpec.ofChange s with cond := some uptoSmall }

/-- 'permafrostlaw12.HeatScripts', WHERE WHAT IT READS IS OF BULK AT MOST 1048576: true; the input reads as it did. -/
def heatScriptsUptoRow : OpenClaim := { program := "ytefobchpcdniiaa", sum := "c185e564455f35267827a0ba2b12a546abfefc41a261b2a66447239cc4e21daa", func := "permafrost/permafrostlaw12.HeatScripts", spec := "heatScripts", unfollowed := true, recurses := true, apart := false, narrowed := true }
def HeatScriptsUptoSaid : Prop := heatScriptsUptoRow.holds Try.pinned (OpenSpec.upto heatScriptsSpec)

/-- 'permafrostlaw12.HeatFades', WHERE WHAT IT READS IS OF BULK AT MOST 1048576: true; the input reads as it did. -/
def heatFadesUptoRow : OpenClaim := { program := "ytefobchpcdniiaa", sum := "c185e564455f35267827a0ba2b12a546abfefc41a261b2a66447239cc4e21daa", func := "permafrost/permafrostlaw12.HeatFades", spec := "heatFades", unfollowed := true, recurses := true, apart := false, narrowed := true }
def HeatFadesUptoSaid : Prop := heatFadesUptoRow.holds Try.pinned (OpenSpec.upto heatFadesSpec)

/-- 'permafrostlaw12.HeatHot', WHERE WHAT IT READS IS OF BULK AT MOST 1048576: true; the input reads as it did. -/
def heatHotUptoRow : OpenClaim := { program := "ytefobchpcdniiaa", sum := "c185e564455f35267827a0ba2b12a546abfefc41a261b2a66447239cc4e21daa", func := "permafrost/permafrostlaw12.HeatHot", spec := "heatHot", unfollowed := true, recurses := true, apart := false, narrowed := true }
def HeatHotUptoSaid : Prop := heatHotUptoRow.holds Try.pinned (OpenSpec.upto heatHotSpec)

/-- 'permafrostlaw12.HeatNil', WHERE WHAT IT READS IS OF BULK AT MOST 1048576: true; the input reads as it did. -/
def heatNilUptoRow : OpenClaim := { program := "ytefobchpcdniiaa", sum := "c185e564455f35267827a0ba2b12a546abfefc41a261b2a66447239cc4e21daa", func := "permafrost/permafrostlaw12.HeatNil", spec := "heatNil", unfollowed := true, recurses := true, apart := false, narrowed := true }
def HeatNilUptoSaid : Prop := heatNilUptoRow.holds Try.pinned (OpenSpec.upto heatNilSpec)

/-- 'permafrostlaw12.HeatOrder', WHERE WHAT IT READS IS OF BULK AT MOST 1048576: true; the input reads as it did. -/
def heatOrderUptoRow : OpenClaim := { program := "ytefobchpcdniiaa", sum := "c185e564455f35267827a0ba2b12a546abfefc41a261b2a66447239cc4e21daa", func := "permafrost/permafrostlaw12.HeatOrder", spec := "heatOrder", unfollowed := true, recurses := true, apart := false, narrowed := true }
def HeatOrderUptoSaid : Prop := heatOrderUptoRow.holds Try.pinned (OpenSpec.upto heatOrderSpec)

/-- 'permafrostlaw12.HeatForgets', WHERE WHAT IT READS IS OF BULK AT MOST 1048576: true; the input reads as it did. -/
def heatForgetsUptoRow : OpenClaim := { program := "ytefobchpcdniiaa", sum := "c185e564455f35267827a0ba2b12a546abfefc41a261b2a66447239cc4e21daa", func := "permafrost/permafrostlaw12.HeatForgets", spec := "heatForgets", unfollowed := true, recurses := true, apart := false, narrowed := true }
def HeatForgetsUptoSaid : Prop := heatForgetsUptoRow.holds Try.pinned (OpenSpec.upto heatForgetsSpec)

end Rows
end Go.Proofs.Ytefobchpcdniiaa
