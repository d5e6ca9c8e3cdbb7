/-
  No cell of these rows narrows 'for every input' (looked for: loops, veiled, ifaces, maps, wideKeys, modest, calm, conditions, laid).
  DERIVED. THE GIVEN ROWS OF THIS SEAT. 6 by the template 'for every input the law returns true; each argument reads behind the call as it read before'; 0 by the template 'total and deterministic' (their statements: YtnjbhooogfonbaaTotals.lean).
  GIVEN WITH THE SEED: the statements are not yours to turn. If you find one false, say at which input.
  Laid BY PROGRAM, IN A SANDBOX (cutbox-rows.mjs): the forced cells as the released guide's own fill.sh prints them over the translation 5bf120639cb00247… (all of the seat's roots in one cut). By AI agents, Wed Nov 11 2026. No macro, syntax, notation, axiom, sorry.
-/
import Derived.Test.YtnjbhooogfonbaaChecked
import GoSem.Claim
import GoSem.ClaimJoined
import GoSem.ClaimMapViews
import Derived.JoinedTies
import Derived.KernelRfl
namespace Go.Proofs.Ytnjbhooogfonbaa
/- THE CELL 'sum', in the pinned program and in every row, IS THE sha256 OF THE DUMP (.gsa) THAT YtnjbhooogfonbaaProg.lean LOADS. Nothing in Lean hashes anything: it is a label: what it is worth is what the hold of that sum in a sandbox is worth. -/
noncomputable def Try.pinned : Pinned := { name := "ytnjbhooogfonbaa", sum := "5bf120639cb00247102529910796cc024a0ea42e452668cda18a0e89fbe1c15a", checked := Try.checked }
namespace Rows
def none {H : Type} : Left H := { results := [], args := [] }

/-- 'permafrostlaw04.PtrEncodes': WHATEVER THE INPUT: true; the input reads as it did. -/
def ptrEncodesSpec : ChangeSpec := { name := "ptrEncodes", fn := fun _ => fun
  | [d1, d2] => { results := [.lit (.bool true)], args := [d1, d2] }
  | _ => none }
def ptrEncodesRow : OpenClaim := { program := "ytnjbhooogfonbaa", sum := "5bf120639cb00247102529910796cc024a0ea42e452668cda18a0e89fbe1c15a", func := "permafrost/permafrostlaw04.PtrEncodes", spec := "ptrEncodes", inPlace := ["internal/abi.NoEscape"], unfollowed := true, recurses := true, apart := false }
def PtrEncodesSaid : Prop := ptrEncodesRow.holds Try.pinned (OpenSpec.ofChange ptrEncodesSpec)

/-- ITS FALSE NEIGHBOUR: 'it returns false'. Refute it at one input. -/
def ptrEncodesWrong : ChangeSpec := { name := "ptrEncodes", fn := fun _ => fun
  | [d1, d2] => { results := [.lit (.bool false)], args := [d1, d2] }
  | _ => none }
def PtrEncodesWrongFalsely : Prop := ptrEncodesRow.holds Try.pinned (OpenSpec.ofChange ptrEncodesWrong)

/-- 'permafrostlaw04.PtrDecodes': WHATEVER THE INPUT: true; the input reads as it did. -/
def ptrDecodesSpec : ChangeSpec := { name := "ptrDecodes", fn := fun _ => fun
  | [d] => { results := [.lit (.bool true)], args := [d] }
  | _ => none }
def ptrDecodesRow : OpenClaim := { program := "ytnjbhooogfonbaa", sum := "5bf120639cb00247102529910796cc024a0ea42e452668cda18a0e89fbe1c15a", func := "permafrost/permafrostlaw04.PtrDecodes", spec := "ptrDecodes", inPlace := ["internal/abi.NoEscape"], unfollowed := true, recurses := true, apart := false }
def PtrDecodesSaid : Prop := ptrDecodesRow.holds Try.pinned (OpenSpec.ofChange ptrDecodesSpec)

/-- ITS FALSE NEIGHBOUR: 'it returns false'. Refute it at one input. -/
def ptrDecodesWrong : ChangeSpec := { name := "ptrDecodes", fn := fun _ => fun
  | [d] => { results := [.lit (.bool false)], args := [d] }
  | _ => none }
def PtrDecodesWrongFalsely : Prop := ptrDecodesRow.holds Try.pinned (OpenSpec.ofChange ptrDecodesWrong)

/-- 'permafrostlaw04.PtrBack': WHATEVER THE INPUT: true; the input reads as it did. -/
def ptrBackSpec : ChangeSpec := { name := "ptrBack", fn := fun _ => fun
  | [d1, d2] => { results := [.lit (.bool true)], args := [d1, d2] }
  | _ => none }
def ptrBackRow : OpenClaim := { program := "ytnjbhooogfonbaa", sum := "5bf120639cb00247102529910796cc024a0ea42e452668cda18a0e89fbe1c15a", func := "permafrost/permafrostlaw04.PtrBack", spec := "ptrBack", inPlace := ["internal/abi.NoEscape"], unfollowed := true, recurses := true, apart := false }
def PtrBackSaid : Prop := ptrBackRow.holds Try.pinned (OpenSpec.ofChange ptrBackSpec)

/-- ITS FALSE NEIGHBOUR: 'it returns false'. Refute it at one input. -/
def ptrBackWrong : ChangeSpec := { name := "ptrBack", fn := fun _ => fun
  | [d1, d2] => { results := [.lit (.bool false)], args := [d1, d2] }
  | _ => none }
def PtrBackWrongFalsely : Prop := ptrBackRow.holds Try.pinned (OpenSpec.ofChange ptrBackWrong)

/-- 'permafrostlaw04.PtrSame': WHATEVER THE INPUT: true; the input reads as it did. -/
def ptrSameSpec : ChangeSpec := { name := "ptrSame", fn := fun _ => fun
  | [d1, d2] => { results := [.lit (.bool true)], args := [d1, d2] }
  | _ => none }
def ptrSameRow : OpenClaim := { program := "ytnjbhooogfonbaa", sum := "5bf120639cb00247102529910796cc024a0ea42e452668cda18a0e89fbe1c15a", func := "permafrost/permafrostlaw04.PtrSame", spec := "ptrSame", inPlace := ["internal/abi.NoEscape"], unfollowed := true, recurses := true, apart := false }
def PtrSameSaid : Prop := ptrSameRow.holds Try.pinned (OpenSpec.ofChange ptrSameSpec)

/-- ITS FALSE NEIGHBOUR: 'it returns false'. Refute it at one input. -/
def ptrSameWrong : ChangeSpec := { name := "ptrSame", fn := fun _ => fun
  | [d1, d2] => { results := [.lit (.bool false)], args := [d1, d2] }
  | _ => none }
def PtrSameWrongFalsely : Prop := ptrSameRow.holds Try.pinned (OpenSpec.ofChange ptrSameWrong)

/-- 'permafrostlaw04.PtrSize': WHATEVER THE INPUT: true; the input reads as it did. -/
def ptrSizeSpec : ChangeSpec := { name := "ptrSize", fn := fun _ => fun
  | [d1, d2] => { results := [.lit (.bool true)], args := [d1, d2] }
  | _ => none }
def ptrSizeRow : OpenClaim := { program := "ytnjbhooogfonbaa", sum := "5bf120639cb00247102529910796cc024a0ea42e452668cda18a0e89fbe1c15a", func := "permafrost/permafrostlaw04.PtrSize", spec := "ptrSize", inPlace := ["internal/abi.NoEscape"], unfollowed := true, recurses := true, apart := false }
def PtrSizeSaid : Prop := ptrSizeRow.holds Try.pinned (OpenSpec.ofChange ptrSizeSpec)

/-- ITS FALSE NEIGHBOUR: 'it returns false'. Refute it at one input. -/
def ptrSizeWrong : ChangeSpec := { name := "ptrSize", fn := fun _ => fun
  | [d1, d2] => { results := [.lit (.bool false)], args := [d1, d2] }
  | _ => none }
def PtrSizeWrongFalsely : Prop := ptrSizeRow.holds Try.pinned (OpenSpec.ofChange ptrSizeWrong)

/-- 'permafrostlaw04.PtrOn': WHATEVER THE INPUT: true; the input reads as it did. -/
def ptrOnSpec : ChangeSpec := { name := "ptrOn", fn := fun _ => fun
  | [d1, d2] => { results := [.lit (.bool true)], args := [d1, d2] }
  | _ => none }
def ptrOnRow : OpenClaim := { program := "ytnjbhooogfonbaa", sum := "5bf120639cb00247102529910796cc024a0ea42e452668cda18a0e89fbe1c15a", func := "permafrost/permafrostlaw04.PtrOn", spec := "ptrOn", inPlace := ["internal/abi.NoEscape"], unfollowed := true, recurses := true, apart := false }
def PtrOnSaid : Prop := ptrOnRow.holds Try.pinned (OpenSpec.ofChange ptrOnSpec)

/-- ITS FALSE NEIGHBOUR: 'it returns false'. Refute it at one input. -/
def ptrOnWrong : ChangeSpec := { name := "ptrOn", fn := fun _ => fun
  | [d1, d2] => { results := [.lit (.bool false)], args := [d1, d2] }
  | _ => none }
def PtrOnWrongFalsely : Prop := ptrOnRow.holds Try.pinned (OpenSpec.ofChange ptrOnWrong)

/- THE SECOND FORM. 'bulk': how many values and letters a reading holds, each counted each time it is reached (what is shared counts as often as it is met; a slice's spare places count too). A statement '..UptoSaid' is the law's where the arguments, and the package variables that the reading takes, are together of bulk at most 1048576: NARROWER than '..Said'. Prove '..Said' where nothing that the law and all that it calls make is longer than what came in: it says more and counts as full. Else prove '..UptoSaid'. A law counts once. -/
mutual
def uptoBulk {H : Type} : DataW H → Nat
  | .lit (.string bytes) => bytes.length + 1
  | .lit _ => 1
  | .nil => 1
  | .ptr d => uptoBulk d + 1
  | .slice elems spare => uptoBulkAll elems + uptoBulkAll spare + 1
  | .agg parts => uptoBulkAll parts + 1
  | .iface _ d => uptoBulk d + 1
  | .map entries => uptoBulkEntries entries + 1
  | .held _ => 1
def uptoBulkAll {H : Type} : List (DataW H) → Nat
  | [] => 0
  | d :: r => uptoBulk d + uptoBulkAll r
def uptoBulkEntries {H : Type} : List (Lit × DataW H) → Nat
  | [] => 0
  | x :: r => uptoBulkEntry x + uptoBulkEntries r
def uptoBulkEntry {H : Type} : Lit × DataW H → Nat
  | (.string bytes, d) => bytes.length + uptoBulk d + 1
  | (_, d) => uptoBulk d + 1
 end
def uptoSmall : (H : Type) → List (DataW H) → Bool := fun _ ds => decide (uptoBulkAll ds ≤ 1048576)
def OpenSpec.upto (s : _root_.Go.ChangeSpec) : _root_.Go.OpenSpec := { _root_.Go.OpenSpec.ofChange s with cond := some uptoSmall }

/-- 'permafrostlaw04.PtrEncodes', WHERE WHAT IT READS IS OF BULK AT MOST 1048576: true; the input reads as it did. -/
def ptrEncodesUptoRow : OpenClaim := { program := "ytnjbhooogfonbaa", sum := "5bf120639cb00247102529910796cc024a0ea42e452668cda18a0e89fbe1c15a", func := "permafrost/permafrostlaw04.PtrEncodes", spec := "ptrEncodes", inPlace := ["internal/abi.NoEscape"], unfollowed := true, recurses := true, apart := false, narrowed := true }
def PtrEncodesUptoSaid : Prop := ptrEncodesUptoRow.holds Try.pinned (OpenSpec.upto ptrEncodesSpec)

/-- 'permafrostlaw04.PtrDecodes', WHERE WHAT IT READS IS OF BULK AT MOST 1048576: true; the input reads as it did. -/
def ptrDecodesUptoRow : OpenClaim := { program := "ytnjbhooogfonbaa", sum := "5bf120639cb00247102529910796cc024a0ea42e452668cda18a0e89fbe1c15a", func := "permafrost/permafrostlaw04.PtrDecodes", spec := "ptrDecodes", inPlace := ["internal/abi.NoEscape"], unfollowed := true, recurses := true, apart := false, narrowed := true }
def PtrDecodesUptoSaid : Prop := ptrDecodesUptoRow.holds Try.pinned (OpenSpec.upto ptrDecodesSpec)

/-- 'permafrostlaw04.PtrBack', WHERE WHAT IT READS IS OF BULK AT MOST 1048576: true; the input reads as it did. -/
def ptrBackUptoRow : OpenClaim := { program := "ytnjbhooogfonbaa", sum := "5bf120639cb00247102529910796cc024a0ea42e452668cda18a0e89fbe1c15a", func := "permafrost/permafrostlaw04.PtrBack", spec := "ptrBack", inPlace := ["internal/abi.NoEscape"], unfollowed := true, recurses := true, apart := false, narrowed := true }
def PtrBackUptoSaid : Prop := ptrBackUptoRow.holds Try.pinned (OpenSpec.upto ptrBackSpec)

/-- 'permafrostlaw04.PtrSame', WHERE WHAT IT READS IS OF BULK AT MOST 1048576: true; the input reads as it did. -/
def ptrSameUptoRow : OpenClaim := { program := "ytnjbhooogfonbaa", sum := "5bf120639cb00247102529910796cc024a0ea42e452668cda18a0e89fbe1c15a", func := "permafrost/permafrostlaw04.PtrSame", spec := "ptrSame", inPlace := ["internal/abi.NoEscape"], unfollowed := true, recurses := true, apart := false, narrowed := true }
def PtrSameUptoSaid : Prop := ptrSameUptoRow.holds Try.pinned (OpenSpec.upto ptrSameSpec)

/-- 'permafrostlaw04.PtrSize', WHERE WHAT IT READS IS OF BULK AT MOST 1048576: true; the input reads as it did. -/
def ptrSizeUptoRow : OpenClaim := { program := "ytnjbhooogfonbaa", sum := "5bf120639cb00247102529910796cc024a0ea42e452668cda18a0e89fbe1c15a", func := "permafrost/permafrostlaw04.PtrSize", spec := "ptrSize", inPlace := ["internal/abi.NoEscape"], unfollowed := true, recurses := true, apart := false, narrowed := true }
def PtrSizeUptoSaid : Prop := ptrSizeUptoRow.holds Try.pinned (OpenSpec.upto ptrSizeSpec)

/-- 'permafrostlaw04.PtrOn', WHERE WHAT IT READS IS OF BULK AT MOST 1048576: true; the input reads as it did. -/
def ptrOnUptoRow : OpenClaim := { program := "ytnjbhooogfonbaa", sum := "5bf120639cb00247102529910796cc024a0ea42e452668cda18a0e89fbe1c15a", func := "permafrost/permafrostlaw04.PtrOn", spec := "ptrOn", inPlace := ["internal/abi.NoEscape"], unfollowed := true, recurses := true, apart := false, narrowed := true }
def PtrOnUptoSaid : Prop := ptrOnUptoRow.holds Try.pinned (OpenSpec.upto ptrOnSpec)

end Rows
end Go.Proofs.Ytnjbhooogfonbaa
