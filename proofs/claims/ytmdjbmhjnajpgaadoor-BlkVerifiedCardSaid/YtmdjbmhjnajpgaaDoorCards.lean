/-
  DERIVED. GIVEN WITH THE SEED: THE CARDS: each row of YtmdjbmhjnajpgaaDoorRows.lean that lists a variable, with what it lists TIED to the program's text (the seventh form; the later family's looks); each row that meets fmt, with fmt's text TOLD by the authors' own Lean function (tested against real Go, not proved from fmt's source: count such statements apart). THE CARD IS WHAT COUNTS. Prove the row's statement (the work); the ties are given (YtmdjbmhjnajpgaaDoorTie.lean); close each card by the builder's one call (the guide's Derived/Test/ToyasCard.lean, 'card_holds'). Laid BY PROGRAM, IN A SANDBOX (cutbox-door.mjs). By AI agents, Wed Nov 11 2026. No macro, syntax, notation, axiom, sorry.
-/
import Derived.Test.YtmdjbmhjnajpgaaDoorRows
import GoSem.ClaimSeven
namespace Go.Proofs.YtmdjbmhjnajpgaaDoor
namespace Rows

/-- THE TIED CARD OF 'permafrostlaw05.BlkVerified'. -/
def blkVerifiedCard : Claim7 := { stood := { row := blkVerifiedRow, standIns := [], harness := (true, "20b58fc19a6522a7658f05c423f1eb967f941a762261290568976283c1700626"), looks := false }, kinds := [], alts := [], laidByText := true, laidKinds := [.data], laidTests := true, laidLooks := .later }
def BlkVerifiedCardSaid : Prop := Claim7.holds Tryd.pinned (.plain (OpenSpec.ofChange blkVerifiedSpec)) blkVerifiedCard

/-- THE TIED CARD OF 'permafrostlaw05.BlkNil'. -/
def blkNilCard : Claim7 := { stood := { row := blkNilRow, standIns := [], harness := (true, "20b58fc19a6522a7658f05c423f1eb967f941a762261290568976283c1700626"), looks := false }, kinds := [], alts := [], laidByText := true, laidKinds := [.data], laidTests := true, laidLooks := .later }
def BlkNilCardSaid : Prop := Claim7.holds Tryd.pinned (.plain (OpenSpec.ofChange blkNilSpec)) blkNilCard

/-- THE TIED CARD OF 'permafrostlaw05.BlkMends'. -/
def blkMendsCard : Claim7 := { stood := { row := blkMendsRow, standIns := [], harness := (true, "20b58fc19a6522a7658f05c423f1eb967f941a762261290568976283c1700626"), looks := false }, kinds := [], alts := [], laidByText := true, laidKinds := [.data], laidTests := true, laidLooks := .later }
def BlkMendsCardSaid : Prop := Claim7.holds Tryd.pinned (.plain (OpenSpec.ofChange blkMendsSpec)) blkMendsCard

/-- THE TIED CARD OF 'permafrostlaw05.BlkGood'. -/
def blkGoodCard : Claim7 := { stood := { row := blkGoodRow, standIns := [], harness := (true, "20b58fc19a6522a7658f05c423f1eb967f941a762261290568976283c1700626"), looks := false }, kinds := [], alts := [], laidByText := true, laidKinds := [.data], laidTests := true, laidLooks := .later }
def BlkGoodCardSaid : Prop := Claim7.holds Tryd.pinned (.plain (OpenSpec.ofChange blkGoodSpec)) blkGoodCard

/-- THE TIED CARD OF 'permafrostlaw05.BlkAgain'. -/
def blkAgainCard : Claim7 := { stood := { row := blkAgainRow, standIns := [], harness := (true, "20b58fc19a6522a7658f05c423f1eb967f941a762261290568976283c1700626"), looks := false }, kinds := [], alts := [], laidByText := true, laidKinds := [.data], laidTests := true, laidLooks := .later }
def BlkAgainCardSaid : Prop := Claim7.holds Tryd.pinned (.plain (OpenSpec.ofChange blkAgainSpec)) blkAgainCard

/-- THE SECOND FORM's CARD OF 'permafrostlaw05.BlkVerified'. -/
def blkVerifiedUptoCard : Claim7 := { stood := { row := blkVerifiedUptoRow, standIns := [], harness := (true, "20b58fc19a6522a7658f05c423f1eb967f941a762261290568976283c1700626"), looks := false }, kinds := [], alts := [], laidByText := true, laidKinds := [.data], laidTests := true, laidLooks := .later }
def BlkVerifiedUptoCardSaid : Prop := Claim7.holds Tryd.pinned (.plain (OpenSpec.upto blkVerifiedSpec)) blkVerifiedUptoCard

/-- THE SECOND FORM's CARD OF 'permafrostlaw05.BlkNil'. -/
def blkNilUptoCard : Claim7 := { stood := { row := blkNilUptoRow, standIns := [], harness := (true, "20b58fc19a6522a7658f05c423f1eb967f941a762261290568976283c1700626"), looks := false }, kinds := [], alts := [], laidByText := true, laidKinds := [.data], laidTests := true, laidLooks := .later }
def BlkNilUptoCardSaid : Prop := Claim7.holds Tryd.pinned (.plain (OpenSpec.upto blkNilSpec)) blkNilUptoCard

/-- THE SECOND FORM's CARD OF 'permafrostlaw05.BlkMends'. -/
def blkMendsUptoCard : Claim7 := { stood := { row := blkMendsUptoRow, standIns := [], harness := (true, "20b58fc19a6522a7658f05c423f1eb967f941a762261290568976283c1700626"), looks := false }, kinds := [], alts := [], laidByText := true, laidKinds := [.data], laidTests := true, laidLooks := .later }
def BlkMendsUptoCardSaid : Prop := Claim7.holds Tryd.pinned (.plain (OpenSpec.upto blkMendsSpec)) blkMendsUptoCard

/-- THE SECOND FORM's CARD OF 'permafrostlaw05.BlkGood'. -/
def blkGoodUptoCard : Claim7 := { stood := { row := blkGoodUptoRow, standIns := [], harness := (true, "20b58fc19a6522a7658f05c423f1eb967f941a762261290568976283c1700626"), looks := false }, kinds := [], alts := [], laidByText := true, laidKinds := [.data], laidTests := true, laidLooks := .later }
def BlkGoodUptoCardSaid : Prop := Claim7.holds Tryd.pinned (.plain (OpenSpec.upto blkGoodSpec)) blkGoodUptoCard

/-- THE SECOND FORM's CARD OF 'permafrostlaw05.BlkAgain'. -/
def blkAgainUptoCard : Claim7 := { stood := { row := blkAgainUptoRow, standIns := [], harness := (true, "20b58fc19a6522a7658f05c423f1eb967f941a762261290568976283c1700626"), looks := false }, kinds := [], alts := [], laidByText := true, laidKinds := [.data], laidTests := true, laidLooks := .later }
def BlkAgainUptoCardSaid : Prop := Claim7.holds Tryd.pinned (.plain (OpenSpec.upto blkAgainSpec)) blkAgainUptoCard
end Rows
end Go.Proofs.YtmdjbmhjnajpgaaDoor
