/-
  NARROWER THAN 'FOR EVERY INPUT', by the rows' own cells (each row's printed sentence says how): SumOf: laid · SumParts: laid · SumLong: laid · SumNil: laid · SumShape: laid · SumHex: laid.
  DERIVED. THE GIVEN ROWS OF THIS SEAT. 6 by the template 'for every input the law returns true; each argument reads behind the call as it read before'; 0 by the template 'total and deterministic' (their statements: YtppckmfaidpliaaDoorTotals.lean).
  GIVEN WITH THE SEED: the statements are not yours to turn. If you find one false, say at which input.
  Laid BY PROGRAM, IN A SANDBOX (cutbox-rows.mjs): the forced cells as the released guide's own fill.sh prints them over the translation be405fccd49c851e… (all of the seat's roots in one cut). By AI agents, Wed Nov 11 2026. No macro, syntax, notation, axiom, sorry.
-/
import Derived.Test.YtppckmfaidpliaaDoorChecked
import GoSem.Claim
import GoSem.ClaimJoined
import GoSem.ClaimMapViews
import Derived.JoinedTies
import Derived.KernelRfl
namespace Go.Proofs.YtppckmfaidpliaaDoor
/- THE CELL 'sum', in the pinned program and in every row, IS THE sha256 OF THE DUMP (.gsa) THAT YtppckmfaidpliaaDoorProg.lean LOADS. Nothing in Lean hashes anything: it is a label: what it is worth is what the hold of that sum in a sandbox is worth. -/
noncomputable def Tryd.pinned : Pinned := { name := "ytppckmfaidpliaadoor", sum := "be405fccd49c851eed1e03fe0bada9e3624c27a8171da381783ed621a8b94ec1", checked := Tryd.checked }
namespace Rows
def none {H : Type} : Left H := { results := [], args := [] }

/- WHAT THE LISTED PACKAGE-LEVEL VARIABLES READ AS WHEN THE CALL BEGINS. Each datum BY PROGRAM (the guide's laid-datum.mjs) off the statement by which the dump's own 'gosem.cut.vars' lays the variable. In a bare row this is a premise. The card (YtppckmfaidpliaaDoorCards.lean) ties it to the program's text. -/
def laid_permafrost_sum_roots {H : Type} : DataW H := .agg [.lit (.int .u32 1116352408), .lit (.int .u32 1899447441), .lit (.int .u32 3049323471), .lit (.int .u32 3921009573), .lit (.int .u32 961987163), .lit (.int .u32 1508970993), .lit (.int .u32 2453635748), .lit (.int .u32 2870763221), .lit (.int .u32 3624381080), .lit (.int .u32 310598401), .lit (.int .u32 607225278), .lit (.int .u32 1426881987), .lit (.int .u32 1925078388), .lit (.int .u32 2162078206), .lit (.int .u32 2614888103), .lit (.int .u32 3248222580), .lit (.int .u32 3835390401), .lit (.int .u32 4022224774), .lit (.int .u32 264347078), .lit (.int .u32 604807628), .lit (.int .u32 770255983), .lit (.int .u32 1249150122), .lit (.int .u32 1555081692), .lit (.int .u32 1996064986), .lit (.int .u32 2554220882), .lit (.int .u32 2821834349), .lit (.int .u32 2952996808), .lit (.int .u32 3210313671), .lit (.int .u32 3336571891), .lit (.int .u32 3584528711), .lit (.int .u32 113926993), .lit (.int .u32 338241895), .lit (.int .u32 666307205), .lit (.int .u32 773529912), .lit (.int .u32 1294757372), .lit (.int .u32 1396182291), .lit (.int .u32 1695183700), .lit (.int .u32 1986661051), .lit (.int .u32 2177026350), .lit (.int .u32 2456956037), .lit (.int .u32 2730485921), .lit (.int .u32 2820302411), .lit (.int .u32 3259730800), .lit (.int .u32 3345764771), .lit (.int .u32 3516065817), .lit (.int .u32 3600352804), .lit (.int .u32 4094571909), .lit (.int .u32 275423344), .lit (.int .u32 430227734), .lit (.int .u32 506948616), .lit (.int .u32 659060556), .lit (.int .u32 883997877), .lit (.int .u32 958139571), .lit (.int .u32 1322822218), .lit (.int .u32 1537002063), .lit (.int .u32 1747873779), .lit (.int .u32 1955562222), .lit (.int .u32 2024104815), .lit (.int .u32 2227730452), .lit (.int .u32 2361852424), .lit (.int .u32 2428436474), .lit (.int .u32 2756734187), .lit (.int .u32 3204031479), .lit (.int .u32 3329325298)]

/-- 'permafrostlaw02.SumOf': WHATEVER THE INPUT: true; the input reads as it did. -/
def sumOfSpec : ChangeSpec := { name := "sumOf", fn := fun _ => fun
  | [d] => { results := [.lit (.bool true)], args := [d] }
  | _ => none }
def sumOfRow : OpenClaim := { program := "ytppckmfaidpliaadoor", sum := "be405fccd49c851eed1e03fe0bada9e3624c27a8171da381783ed621a8b94ec1", func := "permafrost/permafrostlaw02.SumOf", spec := "sumOf", inPlace := ["internal/abi.NoEscape", "internal/bytealg.MakeNoZero"], named := ["permafrost/sum.roots"], apart := false, laid := [("permafrost/sum.roots", laid_permafrost_sum_roots)] }
def SumOfSaid : Prop := sumOfRow.holds Tryd.pinned (OpenSpec.ofChange sumOfSpec)

/-- ITS FALSE NEIGHBOUR: 'it returns false'. Refute it at one input. -/
def sumOfWrong : ChangeSpec := { name := "sumOf", fn := fun _ => fun
  | [d] => { results := [.lit (.bool false)], args := [d] }
  | _ => none }
def SumOfWrongFalsely : Prop := sumOfRow.holds Tryd.pinned (OpenSpec.ofChange sumOfWrong)

/-- 'permafrostlaw02.SumParts': WHATEVER THE INPUT: true; the input reads as it did. -/
def sumPartsSpec : ChangeSpec := { name := "sumParts", fn := fun _ => fun
  | [d1, d2] => { results := [.lit (.bool true)], args := [d1, d2] }
  | _ => none }
def sumPartsRow : OpenClaim := { program := "ytppckmfaidpliaadoor", sum := "be405fccd49c851eed1e03fe0bada9e3624c27a8171da381783ed621a8b94ec1", func := "permafrost/permafrostlaw02.SumParts", spec := "sumParts", inPlace := ["internal/abi.NoEscape", "internal/bytealg.MakeNoZero"], named := ["permafrost/sum.roots"], apart := false, laid := [("permafrost/sum.roots", laid_permafrost_sum_roots)] }
def SumPartsSaid : Prop := sumPartsRow.holds Tryd.pinned (OpenSpec.ofChange sumPartsSpec)

/-- ITS FALSE NEIGHBOUR: 'it returns false'. Refute it at one input. -/
def sumPartsWrong : ChangeSpec := { name := "sumParts", fn := fun _ => fun
  | [d1, d2] => { results := [.lit (.bool false)], args := [d1, d2] }
  | _ => none }
def SumPartsWrongFalsely : Prop := sumPartsRow.holds Tryd.pinned (OpenSpec.ofChange sumPartsWrong)

/-- 'permafrostlaw02.SumLong': WHATEVER THE INPUT: true; the input reads as it did. -/
def sumLongSpec : ChangeSpec := { name := "sumLong", fn := fun _ => fun
  | [d1, d2] => { results := [.lit (.bool true)], args := [d1, d2] }
  | _ => none }
def sumLongRow : OpenClaim := { program := "ytppckmfaidpliaadoor", sum := "be405fccd49c851eed1e03fe0bada9e3624c27a8171da381783ed621a8b94ec1", func := "permafrost/permafrostlaw02.SumLong", spec := "sumLong", inPlace := ["internal/abi.NoEscape", "internal/bytealg.MakeNoZero"], named := ["permafrost/sum.roots"], apart := false, laid := [("permafrost/sum.roots", laid_permafrost_sum_roots)] }
def SumLongSaid : Prop := sumLongRow.holds Tryd.pinned (OpenSpec.ofChange sumLongSpec)

/-- ITS FALSE NEIGHBOUR: 'it returns false'. Refute it at one input. -/
def sumLongWrong : ChangeSpec := { name := "sumLong", fn := fun _ => fun
  | [d1, d2] => { results := [.lit (.bool false)], args := [d1, d2] }
  | _ => none }
def SumLongWrongFalsely : Prop := sumLongRow.holds Tryd.pinned (OpenSpec.ofChange sumLongWrong)

/-- 'permafrostlaw02.SumNil': WHATEVER THE INPUT: true; the input reads as it did. -/
def sumNilSpec : ChangeSpec := { name := "sumNil", fn := fun _ => fun
  | [d] => { results := [.lit (.bool true)], args := [d] }
  | _ => none }
def sumNilRow : OpenClaim := { program := "ytppckmfaidpliaadoor", sum := "be405fccd49c851eed1e03fe0bada9e3624c27a8171da381783ed621a8b94ec1", func := "permafrost/permafrostlaw02.SumNil", spec := "sumNil", inPlace := ["internal/abi.NoEscape", "internal/bytealg.MakeNoZero"], named := ["permafrost/sum.roots"], apart := false, laid := [("permafrost/sum.roots", laid_permafrost_sum_roots)] }
def SumNilSaid : Prop := sumNilRow.holds Tryd.pinned (OpenSpec.ofChange sumNilSpec)

/-- ITS FALSE NEIGHBOUR: 'it returns false'. Refute it at one input. -/
def sumNilWrong : ChangeSpec := { name := "sumNil", fn := fun _ => fun
  | [d] => { results := [.lit (.bool false)], args := [d] }
  | _ => none }
def SumNilWrongFalsely : Prop := sumNilRow.holds Tryd.pinned (OpenSpec.ofChange sumNilWrong)

/-- 'permafrostlaw02.SumShape': WHATEVER THE INPUT: true; the input reads as it did. -/
def sumShapeSpec : ChangeSpec := { name := "sumShape", fn := fun _ => fun
  | [d] => { results := [.lit (.bool true)], args := [d] }
  | _ => none }
def sumShapeRow : OpenClaim := { program := "ytppckmfaidpliaadoor", sum := "be405fccd49c851eed1e03fe0bada9e3624c27a8171da381783ed621a8b94ec1", func := "permafrost/permafrostlaw02.SumShape", spec := "sumShape", inPlace := ["internal/abi.NoEscape", "internal/bytealg.MakeNoZero"], named := ["permafrost/sum.roots"], apart := false, laid := [("permafrost/sum.roots", laid_permafrost_sum_roots)] }
def SumShapeSaid : Prop := sumShapeRow.holds Tryd.pinned (OpenSpec.ofChange sumShapeSpec)

/-- ITS FALSE NEIGHBOUR: 'it returns false'. Refute it at one input. -/
def sumShapeWrong : ChangeSpec := { name := "sumShape", fn := fun _ => fun
  | [d] => { results := [.lit (.bool false)], args := [d] }
  | _ => none }
def SumShapeWrongFalsely : Prop := sumShapeRow.holds Tryd.pinned (OpenSpec.ofChange sumShapeWrong)

/-- 'permafrostlaw02.SumHex': WHATEVER THE INPUT: true; the input reads as it did. -/
def sumHexSpec : ChangeSpec := { name := "sumHex", fn := fun _ => fun
  | [d1, d2] => { results := [.lit (.bool true)], args := [d1, d2] }
  | _ => none }
def sumHexRow : OpenClaim := { program := "ytppckmfaidpliaadoor", sum := "be405fccd49c851eed1e03fe0bada9e3624c27a8171da381783ed621a8b94ec1", func := "permafrost/permafrostlaw02.SumHex", spec := "sumHex", inPlace := ["internal/abi.NoEscape", "internal/bytealg.MakeNoZero"], named := ["permafrost/sum.roots"], apart := false, laid := [("permafrost/sum.roots", laid_permafrost_sum_roots)] }
def SumHexSaid : Prop := sumHexRow.holds Tryd.pinned (OpenSpec.ofChange sumHexSpec)

/-- ITS FALSE NEIGHBOUR: 'it returns false'. Refute it at one input. -/
def sumHexWrong : ChangeSpec := { name := "sumHex", fn := fun _ => fun
  | [d1, d2] => { results := [.lit (.bool false)], args := [d1, d2] }
  | _ => none }
def SumHexWrongFalsely : Prop := sumHexRow.holds Tryd.pinned (OpenSpec.ofChange sumHexWrong)

/- THE SECOND FORM. 'bulk': how many values and letters a reading holds, each counted each time it is reached (what is shared counts as often as it is met; a slice's spare places count too). A statement '..UptoSaid' is the law's where the arguments, and the package variables that the reading takes, are together of bulk at most 1048576: NARROWER than '..Said'. Prove '..Said' where nothing that the law and all that it calls make is longer than what came in: it says more and counts as full. Else prove '..UptoSaid'. A law counts once. -/
mutual
def uptoBulk {H : Type} : DataW H → Nat
  | .lit (.string bytes) => bytes.length + 1
  | .lit _ => 1
  | .nil => 1
  | .ptr d => uptoBulk d + 1
  | .slice elems spare => uptoBulkAll elems + uptoBulkAll spare + 1
  | .agg parts => uptoBulkAll parts + 1
  | .iface _ d => uptoBulk d + 1
  | .map entries => uptoBulkEntries entries + 1
  | .held _ => 1
def uptoBulkAll {H : Type} : List (DataW H) → Nat
  | [] => 0
  | d :: r => uptoBulk d + uptoBulkAll r
def uptoBulkEntries {H : Type} : List (Lit × DataW H) → Nat
  | [] => 0
  | x :: r => uptoBulkEntry x + uptoBulkEntries r
def uptoBulkEntry {H : Type} : Lit × DataW H → Nat
  | (.string bytes, d) => bytes.length + uptoBulk d + 1
  | (_, d) => uptoBulk d + 1
 end
def uptoSmall : (H : Type) → List (DataW H) → Bool := fun _ ds => decide (uptoBulkAll ds ≤ 1048576)
def OpenSpec.upto (s : _root_.Go.ChangeSpec) : _root_.Go.OpenSpec := { _root_.Go.OpenSpec.ofChange s with cond := some uptoSmall }

/-- 'permafrostlaw02.SumOf', WHERE WHAT IT READS IS OF BULK AT MOST 1048576: true; the input reads as it did. -/
def sumOfUptoRow : OpenClaim := { program := "ytppckmfaidpliaadoor", sum := "be405fccd49c851eed1e03fe0bada9e3624c27a8171da381783ed621a8b94ec1", func := "permafrost/permafrostlaw02.SumOf", spec := "sumOf", inPlace := ["internal/abi.NoEscape", "internal/bytealg.MakeNoZero"], named := ["permafrost/sum.roots"], apart := false, laid := [("permafrost/sum.roots", laid_permafrost_sum_roots)], narrowed := true }
def SumOfUptoSaid : Prop := sumOfUptoRow.holds Tryd.pinned (OpenSpec.upto sumOfSpec)

/-- 'permafrostlaw02.SumParts', WHERE WHAT IT READS IS OF BULK AT MOST 1048576: true; the input reads as it did. -/
def sumPartsUptoRow : OpenClaim := { program := "ytppckmfaidpliaadoor", sum := "be405fccd49c851eed1e03fe0bada9e3624c27a8171da381783ed621a8b94ec1", func := "permafrost/permafrostlaw02.SumParts", spec := "sumParts", inPlace := ["internal/abi.NoEscape", "internal/bytealg.MakeNoZero"], named := ["permafrost/sum.roots"], apart := false, laid := [("permafrost/sum.roots", laid_permafrost_sum_roots)], narrowed := true }
def SumPartsUptoSaid : Prop := sumPartsUptoRow.holds Tryd.pinned (OpenSpec.upto sumPartsSpec)

/-- 'permafrostlaw02.SumLong', WHERE WHAT IT READS IS OF BULK AT MOST 1048576: true; the input reads as it did. -/
def sumLongUptoRow : OpenClaim := { program := "ytppckmfaidpliaadoor", sum := "be405fccd49c851eed1e03fe0bada9e3624c27a8171da381783ed621a8b94ec1", func := "permafrost/permafrostlaw02.SumLong", spec := "sumLong", inPlace := ["internal/abi.NoEscape", "internal/bytealg.MakeNoZero"], named := ["permafrost/sum.roots"], apart := false, laid := [("permafrost/sum.roots", laid_permafrost_sum_roots)], narrowed := true }
def SumLongUptoSaid : Prop := sumLongUptoRow.holds Tryd.pinned (OpenSpec.upto sumLongSpec)

/-- 'permafrostlaw02.SumNil', WHERE WHAT IT READS IS OF BULK AT MOST 1048576: true; the input reads as it did. -/
def sumNilUptoRow : OpenClaim := { program := "ytppckmfaidpliaadoor", sum := "be405fccd49c851eed1e03fe0bada9e3624c27a8171da381783ed621a8b94ec1", func := "permafrost/permafrostlaw02.SumNil", spec := "sumNil", inPlace := ["internal/abi.NoEscape", "internal/bytealg.MakeNoZero"], named := ["permafrost/sum.roots"], apart := false, laid := [("permafrost/sum.roots", laid_permafrost_sum_roots)], narrowed := true }
def SumNilUptoSaid : Prop := sumNilUptoRow.holds Tryd.pinned (OpenSpec.upto sumNilSpec)

/-- 'permafrostlaw02.SumShape', WHERE WHAT IT READS IS OF BULK AT MOST 1048576: true; the input reads as it did. -/
def sumShapeUptoRow : OpenClaim := { program := "ytppckmfaidpliaadoor", sum := "be405fccd49c851eed1e03fe0bada9e3624c27a8171da381783ed621a8b94ec1", func := "permafrost/permafrostlaw02.SumShape", spec := "sumShape", inPlace := ["internal/abi.NoEscape", "internal/bytealg.MakeNoZero"], named := ["permafrost/sum.roots"], apart := false, laid := [("permafrost/sum.roots", laid_permafrost_sum_roots)], narrowed := true }
def SumShapeUptoSaid : Prop := sumShapeUptoRow.holds Tryd.pinned (OpenSpec.upto sumShapeSpec)

/-- 'permafrostlaw02.SumHex', WHERE WHAT IT READS IS OF BULK AT MOST 1048576: true; the input reads as it did. -/
def sumHexUptoRow : OpenClaim := { program := "ytppckmfaidpliaadoor", sum := "be405fccd49c851eed1e03fe0bada9e3624c27a8171da381783ed621a8b94ec1", func := "permafrost/permafrostlaw02.SumHex", spec := "sumHex", inPlace := ["internal/abi.NoEscape", "internal/bytealg.MakeNoZero"], named := ["permafrost/sum.roots"], apart := false, laid := [("permafrost/sum.roots", laid_permafrost_sum_roots)], narrowed := true }
def SumHexUptoSaid : Prop := sumHexUptoRow.holds Tryd.pinned (OpenSpec.upto sumHexSpec)

end Rows
end Go.Proofs.YtppckmfaidpliaaDoor
