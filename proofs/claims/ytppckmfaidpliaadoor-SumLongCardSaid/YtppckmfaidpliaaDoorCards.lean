/-
  DERIVED. GIVEN WITH THE SEED: THE CARDS: each row of YtppckmfaidpliaaDoorRows.lean that lists a variable, with what it lists TIED to the program's text (the seventh form; the later family's looks); each row that meets fmt, with fmt's text TOLD by the authors' own Lean function (tested against real Go, not proved from fmt's source: count such statements apart). THE CARD IS WHAT COUNTS. Prove the row's statement (the work); the ties are given (YtppckmfaidpliaaDoorTie.lean); close each card by the builder's one call (the guide's Derived/Test/ToyasCard.lean, 'card_holds'). Laid BY PROGRAM, IN A SANDBOX (cutbox-door.mjs). By AI agents, Wed Nov 11 2026. No macro, syntax, notation, axiom, sorry.
-/
import Derived.Test.YtppckmfaidpliaaDoorRows
import GoSem.ClaimSeven
namespace Go.Proofs.YtppckmfaidpliaaDoor
namespace Rows

/-- THE TIED CARD OF 'permafrostlaw02.SumOf'. -/
def sumOfCard : Claim7 := { stood := { row := sumOfRow, standIns := [], harness := (true, "09d11373833f6e3632cdde7980115a7ae479fc4634d7fee97cd94e3e6e4bb580"), looks := false }, kinds := [], alts := [], laidByText := true, laidKinds := [.data], laidTests := true, laidLooks := .later }
def SumOfCardSaid : Prop := Claim7.holds Tryd.pinned (.plain (OpenSpec.ofChange sumOfSpec)) sumOfCard

/-- THE TIED CARD OF 'permafrostlaw02.SumParts'. -/
def sumPartsCard : Claim7 := { stood := { row := sumPartsRow, standIns := [], harness := (true, "09d11373833f6e3632cdde7980115a7ae479fc4634d7fee97cd94e3e6e4bb580"), looks := false }, kinds := [], alts := [], laidByText := true, laidKinds := [.data], laidTests := true, laidLooks := .later }
def SumPartsCardSaid : Prop := Claim7.holds Tryd.pinned (.plain (OpenSpec.ofChange sumPartsSpec)) sumPartsCard

/-- THE TIED CARD OF 'permafrostlaw02.SumLong'. -/
def sumLongCard : Claim7 := { stood := { row := sumLongRow, standIns := [], harness := (true, "09d11373833f6e3632cdde7980115a7ae479fc4634d7fee97cd94e3e6e4bb580"), looks := false }, kinds := [], alts := [], laidByText := true, laidKinds := [.data], laidTests := true, laidLooks := .later }
def SumLongCardSaid : Prop := Claim7.holds Tryd.pinned (.plain (OpenSpec.ofChange sumLongSpec)) sumLongCard

/-- THE TIED CARD OF 'permafrostlaw02.SumNil'. -/
def sumNilCard : Claim7 := { stood := { row := sumNilRow, standIns := [], harness := (true, "09d11373833f6e3632cdde7980115a7ae479fc4634d7fee97cd94e3e6e4bb580"), looks := false }, kinds := [], alts := [], laidByText := true, laidKinds := [.data], laidTests := true, laidLooks := .later }
def SumNilCardSaid : Prop := Claim7.holds Tryd.pinned (.plain (OpenSpec.ofChange sumNilSpec)) sumNilCard

/-- THE TIED CARD OF 'permafrostlaw02.SumShape'. -/
def sumShapeCard : Claim7 := { stood := { row := sumShapeRow, standIns := [], harness := (true, "09d11373833f6e3632cdde7980115a7ae479fc4634d7fee97cd94e3e6e4bb580"), looks := false }, kinds := [], alts := [], laidByText := true, laidKinds := [.data], laidTests := true, laidLooks := .later }
def SumShapeCardSaid : Prop := Claim7.holds Tryd.pinned (.plain (OpenSpec.ofChange sumShapeSpec)) sumShapeCard

/-- THE TIED CARD OF 'permafrostlaw02.SumHex'. -/
def sumHexCard : Claim7 := { stood := { row := sumHexRow, standIns := [], harness := (true, "09d11373833f6e3632cdde7980115a7ae479fc4634d7fee97cd94e3e6e4bb580"), looks := false }, kinds := [], alts := [], laidByText := true, laidKinds := [.data], laidTests := true, laidLooks := .later }
def SumHexCardSaid : Prop := Claim7.holds Tryd.pinned (.plain (OpenSpec.ofChange sumHexSpec)) sumHexCard

/-- THE SECOND FORM's CARD OF 'permafrostlaw02.SumOf'. -/
def sumOfUptoCard : Claim7 := { stood := { row := sumOfUptoRow, standIns := [], harness := (true, "09d11373833f6e3632cdde7980115a7ae479fc4634d7fee97cd94e3e6e4bb580"), looks := false }, kinds := [], alts := [], laidByText := true, laidKinds := [.data], laidTests := true, laidLooks := .later }
def SumOfUptoCardSaid : Prop := Claim7.holds Tryd.pinned (.plain (OpenSpec.upto sumOfSpec)) sumOfUptoCard

/-- THE SECOND FORM's CARD OF 'permafrostlaw02.SumParts'. -/
def sumPartsUptoCard : Claim7 := { stood := { row := sumPartsUptoRow, standIns := [], harness := (true, "09d11373833f6e3632cdde7980115a7ae479fc4634d7fee97cd94e3e6e4bb580"), looks := false }, kinds := [], alts := [], laidByText := true, laidKinds := [.data], laidTests := true, laidLooks := .later }
def SumPartsUptoCardSaid : Prop := Claim7.holds Tryd.pinned (.plain (OpenSpec.upto sumPartsSpec)) sumPartsUptoCard

/-- THE SECOND FORM's CARD OF 'permafrostlaw02.SumLong'. -/
def sumLongUptoCard : Claim7 := { stood := { row := sumLongUptoRow, standIns := [], harness := (true, "09d11373833f6e3632cdde7980115a7ae479fc4634d7fee97cd94e3e6e4bb580"), looks := false }, kinds := [], alts := [], laidByText := true, laidKinds := [.data], laidTests := true, laidLooks := .later }
def SumLongUptoCardSaid : Prop := Claim7.holds Tryd.pinned (.plain (OpenSpec.upto sumLongSpec)) sumLongUptoCard

/-- THE SECOND FORM's CARD OF 'permafrostlaw02.SumNil'. -/
def sumNilUptoCard : Claim7 := { stood := { row := sumNilUptoRow, standIns := [], harness := (true, "09d11373833f6e3632cdde7980115a7ae479fc4634d7fee97cd94e3e6e4bb580"), looks := false }, kinds := [], alts := [], laidByText := true, laidKinds := [.data], laidTests := true, laidLooks := .later }
def SumNilUptoCardSaid : Prop := Claim7.holds Tryd.pinned (.plain (OpenSpec.upto sumNilSpec)) sumNilUptoCard

/-- THE SECOND FORM's CARD OF 'permafrostlaw02.SumShape'. -/
def sumShapeUptoCard : Claim7 := { stood := { row := sumShapeUptoRow, standIns := [], harness := (true, "09d11373833f6e3632cdde7980115a7ae479fc4634d7fee97cd94e3e6e4bb580"), looks := false }, kinds := [], alts := [], laidByText := true, laidKinds := [.data], laidTests := true, laidLooks := .later }
def SumShapeUptoCardSaid : Prop := Claim7.holds Tryd.pinned (.plain (OpenSpec.upto sumShapeSpec)) sumShapeUptoCard

/-- THE SECOND FORM's CARD OF 'permafrostlaw02.SumHex'. -/
def sumHexUptoCard : Claim7 := { stood := { row := sumHexUptoRow, standIns := [], harness := (true, "09d11373833f6e3632cdde7980115a7ae479fc4634d7fee97cd94e3e6e4bb580"), looks := false }, kinds := [], alts := [], laidByText := true, laidKinds := [.data], laidTests := true, laidLooks := .later }
def SumHexUptoCardSaid : Prop := Claim7.holds Tryd.pinned (.plain (OpenSpec.upto sumHexSpec)) sumHexUptoCard
end Rows
end Go.Proofs.YtppckmfaidpliaaDoor
