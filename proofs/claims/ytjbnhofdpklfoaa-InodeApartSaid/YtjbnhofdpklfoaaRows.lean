/-
  No cell of these rows narrows 'for every input' (looked for: loops, veiled, ifaces, maps, wideKeys, modest, calm, conditions, laid).
  DERIVED. THE GIVEN ROWS OF THIS SEAT. 5 by the template 'for every input the law returns true; each argument reads behind the call as it read before'; 0 by the template 'total and deterministic' (their statements: YtjbnhofdpklfoaaTotals.lean).
  GIVEN WITH THE SEED: the statements are not yours to turn. If you find one false, say at which input.
  Laid BY PROGRAM, IN A SANDBOX (cutbox-rows.mjs): the forced cells as the released guide's own fill.sh prints them over the translation 98584fe835ef420f… (all of the seat's roots in one cut). By AI agents, Wed Nov 11 2026. No macro, syntax, notation, axiom, sorry.
-/
import Derived.Test.YtjbnhofdpklfoaaChecked
import GoSem.Claim
import GoSem.ClaimJoined
import GoSem.ClaimMapViews
import Derived.JoinedTies
import Derived.KernelRfl
namespace Go.Proofs.Ytjbnhofdpklfoaa
/- THE CELL 'sum', in the pinned program and in every row, IS THE sha256 OF THE DUMP (.gsa) THAT YtjbnhofdpklfoaaProg.lean LOADS. Nothing in Lean hashes anything: it is a label: what it is worth is what the hold of that sum in a sandbox is worth. -/
noncomputable def Try.pinned : Pinned := { name := "ytjbnhofdpklfoaa", sum := "98584fe835ef420f45de11174cba90f072de6dbd9fe47eb0da9f680d421778be", checked := Try.checked }
namespace Rows
def none {H : Type} : Left H := { results := [], args := [] }

/-- 'permafrostlaw15.InodeKeys': WHATEVER THE INPUT: true; the input reads as it did. -/
def inodeKeysSpec : ChangeSpec := { name := "inodeKeys", fn := fun _ => fun
  | [d1, d2, d3] => { results := [.lit (.bool true)], args := [d1, d2, d3] }
  | _ => none }
def inodeKeysRow : OpenClaim := { program := "ytjbnhofdpklfoaa", sum := "98584fe835ef420f45de11174cba90f072de6dbd9fe47eb0da9f680d421778be", func := "permafrost/permafrostlaw15.InodeKeys", spec := "inodeKeys", apart := false }
def InodeKeysSaid : Prop := inodeKeysRow.holds Try.pinned (OpenSpec.ofChange inodeKeysSpec)

/-- ITS FALSE NEIGHBOUR: 'it returns false'. Refute it at one input. -/
def inodeKeysWrong : ChangeSpec := { name := "inodeKeys", fn := fun _ => fun
  | [d1, d2, d3] => { results := [.lit (.bool false)], args := [d1, d2, d3] }
  | _ => none }
def InodeKeysWrongFalsely : Prop := inodeKeysRow.holds Try.pinned (OpenSpec.ofChange inodeKeysWrong)

/-- 'permafrostlaw15.InodeTexts': WHATEVER THE INPUT: true; the input reads as it did. -/
def inodeTextsSpec : ChangeSpec := { name := "inodeTexts", fn := fun _ => fun
  | [d1, d2] => { results := [.lit (.bool true)], args := [d1, d2] }
  | _ => none }
def inodeTextsRow : OpenClaim := { program := "ytjbnhofdpklfoaa", sum := "98584fe835ef420f45de11174cba90f072de6dbd9fe47eb0da9f680d421778be", func := "permafrost/permafrostlaw15.InodeTexts", spec := "inodeTexts", apart := false }
def InodeTextsSaid : Prop := inodeTextsRow.holds Try.pinned (OpenSpec.ofChange inodeTextsSpec)

/-- ITS FALSE NEIGHBOUR: 'it returns false'. Refute it at one input. -/
def inodeTextsWrong : ChangeSpec := { name := "inodeTexts", fn := fun _ => fun
  | [d1, d2] => { results := [.lit (.bool false)], args := [d1, d2] }
  | _ => none }
def InodeTextsWrongFalsely : Prop := inodeTextsRow.holds Try.pinned (OpenSpec.ofChange inodeTextsWrong)

/-- 'permafrostlaw15.InodeBack': WHATEVER THE INPUT: true; the input reads as it did. -/
def inodeBackSpec : ChangeSpec := { name := "inodeBack", fn := fun _ => fun
  | [d1, d2, d3] => { results := [.lit (.bool true)], args := [d1, d2, d3] }
  | _ => none }
def inodeBackRow : OpenClaim := { program := "ytjbnhofdpklfoaa", sum := "98584fe835ef420f45de11174cba90f072de6dbd9fe47eb0da9f680d421778be", func := "permafrost/permafrostlaw15.InodeBack", spec := "inodeBack", apart := false }
def InodeBackSaid : Prop := inodeBackRow.holds Try.pinned (OpenSpec.ofChange inodeBackSpec)

/-- ITS FALSE NEIGHBOUR: 'it returns false'. Refute it at one input. -/
def inodeBackWrong : ChangeSpec := { name := "inodeBack", fn := fun _ => fun
  | [d1, d2, d3] => { results := [.lit (.bool false)], args := [d1, d2, d3] }
  | _ => none }
def InodeBackWrongFalsely : Prop := inodeBackRow.holds Try.pinned (OpenSpec.ofChange inodeBackWrong)

/-- 'permafrostlaw15.InodeOrder': WHATEVER THE INPUT: true; the input reads as it did. -/
def inodeOrderSpec : ChangeSpec := { name := "inodeOrder", fn := fun _ => fun
  | [d] => { results := [.lit (.bool true)], args := [d] }
  | _ => none }
def inodeOrderRow : OpenClaim := { program := "ytjbnhofdpklfoaa", sum := "98584fe835ef420f45de11174cba90f072de6dbd9fe47eb0da9f680d421778be", func := "permafrost/permafrostlaw15.InodeOrder", spec := "inodeOrder", apart := false }
def InodeOrderSaid : Prop := inodeOrderRow.holds Try.pinned (OpenSpec.ofChange inodeOrderSpec)

/-- ITS FALSE NEIGHBOUR: 'it returns false'. Refute it at one input. -/
def inodeOrderWrong : ChangeSpec := { name := "inodeOrder", fn := fun _ => fun
  | [d] => { results := [.lit (.bool false)], args := [d] }
  | _ => none }
def InodeOrderWrongFalsely : Prop := inodeOrderRow.holds Try.pinned (OpenSpec.ofChange inodeOrderWrong)

/-- 'permafrostlaw15.InodeApart': WHATEVER THE INPUT: true; the input reads as it did. -/
def inodeApartSpec : ChangeSpec := { name := "inodeApart", fn := fun _ => fun
  | [d] => { results := [.lit (.bool true)], args := [d] }
  | _ => none }
def inodeApartRow : OpenClaim := { program := "ytjbnhofdpklfoaa", sum := "98584fe835ef420f45de11174cba90f072de6dbd9fe47eb0da9f680d421778be", func := "permafrost/permafrostlaw15.InodeApart", spec := "inodeApart", apart := false }
def InodeApartSaid : Prop := inodeApartRow.holds Try.pinned (OpenSpec.ofChange inodeApartSpec)

/-- ITS FALSE NEIGHBOUR: 'it returns false'. Refute it at one input. -/
def inodeApartWrong : ChangeSpec := { name := "inodeApart", fn := fun _ => fun
  | [d] => { results := [.lit (.bool false)], args := [d] }
  | _ => none }
def InodeApartWrongFalsely : Prop := inodeApartRow.holds Try.pinned (OpenSpec.ofChange inodeApartWrong)

/- THE SECOND FORM. 'bulk': how many values and letters a reading holds, each counted each time it is reached (what is shared counts as often as it is met; a slice's spare places count too). A statement '..UptoSaid' is the law's where the arguments, and the package variables that the reading takes, are together of bulk at most 1048576: NARROWER than '..Said'. Prove '..Said' where nothing that the law and all that it calls make is longer than what came in: it says more and counts as full. Else prove '..UptoSaid'. A law counts once. -/
mutual
def uptoBulk {H : Type} : DataW H → Nat
  | .lit (.string bytes) => bytes.length + 1
  | .lit _ => 1
  | .nil => 1
  | .ptr d => uptoBulk d + 1
  | .slice elems spare => uptoBulkAll elems + uptoBulkAll spare + 1
  | .agg parts => uptoBulkAll parts + 1
  | .iface _ d => uptoBulk d + 1
  | .map entries => uptoBulkEntries entries + 1
  | .held _ => 1
def uptoBulkAll {H : Type} : List (DataW H) → Nat
  | [] => 0
  | d :: r => uptoBulk d + uptoBulkAll r
def uptoBulkEntries {H : Type} : List (Lit × DataW H) → Nat
  | [] => 0
  | x :: r => uptoBulkEntry x + uptoBulkEntries r
def uptoBulkEntry {H : Type} : Lit × DataW H → Nat
  | (.string bytes, d) => bytes.length + uptoBulk d + 1
  | (_, d) => uptoBulk d + 1
 end
def uptoSmall : (H : Type) → List (DataW H) → Bool := fun _ ds => decide (uptoBulkAll ds ≤ 1048576)
def OpenSpec.upto (s : _root_.Go.ChangeSpec) : _root_.Go.OpenSpec := { _root_.Go.OpenSpec.ofChange s with cond := some uptoSmall }

/-- 'permafrostlaw15.InodeKeys', WHERE WHAT IT READS IS OF BULK AT MOST 1048576: true; the input reads as it did. -/
def inodeKeysUptoRow : OpenClaim := { program := "ytjbnhofdpklfoaa", sum := "98584fe835ef420f45de11174cba90f072de6dbd9fe47eb0da9f680d421778be", func := "permafrost/permafrostlaw15.InodeKeys", spec := "inodeKeys", apart := false, narrowed := true }
def InodeKeysUptoSaid : Prop := inodeKeysUptoRow.holds Try.pinned (OpenSpec.upto inodeKeysSpec)

/-- 'permafrostlaw15.InodeTexts', WHERE WHAT IT READS IS OF BULK AT MOST 1048576: true; the input reads as it did. -/
def inodeTextsUptoRow : OpenClaim := { program := "ytjbnhofdpklfoaa", sum := "98584fe835ef420f45de11174cba90f072de6dbd9fe47eb0da9f680d421778be", func := "permafrost/permafrostlaw15.InodeTexts", spec := "inodeTexts", apart := false, narrowed := true }
def InodeTextsUptoSaid : Prop := inodeTextsUptoRow.holds Try.pinned (OpenSpec.upto inodeTextsSpec)

/-- 'permafrostlaw15.InodeBack', WHERE WHAT IT READS IS OF BULK AT MOST 1048576: true; the input reads as it did. -/
def inodeBackUptoRow : OpenClaim := { program := "ytjbnhofdpklfoaa", sum := "98584fe835ef420f45de11174cba90f072de6dbd9fe47eb0da9f680d421778be", func := "permafrost/permafrostlaw15.InodeBack", spec := "inodeBack", apart := false, narrowed := true }
def InodeBackUptoSaid : Prop := inodeBackUptoRow.holds Try.pinned (OpenSpec.upto inodeBackSpec)

/-- 'permafrostlaw15.InodeOrder', WHERE WHAT IT READS IS OF BULK AT MOST 1048576: true; the input reads as it did. -/
def inodeOrderUptoRow : OpenClaim := { program := "ytjbnhofdpklfoaa", sum := "98584fe835ef420f45de11174cba90f072de6dbd9fe47eb0da9f680d421778be", func := "permafrost/permafrostlaw15.InodeOrder", spec := "inodeOrder", apart := false, narrowed := true }
def InodeOrderUptoSaid : Prop := inodeOrderUptoRow.holds Try.pinned (OpenSpec.upto inodeOrderSpec)

/-- 'permafrostlaw15.InodeApart', WHERE WHAT IT READS IS OF BULK AT MOST 1048576: true; the input reads as it did. -/
def inodeApartUptoRow : OpenClaim := { program := "ytjbnhofdpklfoaa", sum := "98584fe835ef420f45de11174cba90f072de6dbd9fe47eb0da9f680d421778be", func := "permafrost/permafrostlaw15.InodeApart", spec := "inodeApart", apart := false, narrowed := true }
def InodeApartUptoSaid : Prop := inodeApartUptoRow.holds Try.pinned (OpenSpec.upto inodeApartSpec)

end Rows
end Go.Proofs.Ytjbnhofdpklfoaa
