/-
  DERIVED. GIVEN WITH THE SEED: THE CARDS: each row of YtcamcjcmhjldpaaDoorRows.lean that lists a variable, with what it lists TIED to the program's text (the seventh form; the later family's looks); each row that meets fmt, with fmt's text TOLD by the authors' own Lean function (tested against real Go, not proved from fmt's source: count such statements apart). THE CARD IS WHAT COUNTS. Prove the row's statement (the work); the ties are given (YtcamcjcmhjldpaaDoorTie.lean); close each card by the builder's one call (the guide's Derived/Test/ToyasCard.lean, 'card_holds'). Laid BY PROGRAM, IN A SANDBOX (cutbox-door.mjs). By AI agents, Wed Nov 11 2026. No macro, syntax, notation, axiom, sorry.
-/
import Derived.Test.YtcamcjcmhjldpaaDoorRows
import GoSem.ClaimSeven
namespace Go.Proofs.YtcamcjcmhjldpaaDoor
namespace Rows

/-- THE TIED CARD OF 'permafrostlaw06.UberEncodes'. -/
def uberEncodesCard : Claim7 := { stood := { row := uberEncodesRow, standIns := [], harness := (true, "aeff7c75064e86b79e4a5734fab85e1efb4af24545dc40a927bc3615d21042f1"), looks := false }, kinds := [], alts := [], laidByText := true, laidKinds := [.data], laidTests := true, laidLooks := .later }
def UberEncodesCardSaid : Prop := Claim7.holds Tryd.pinned (.plain (OpenSpec.ofChange uberEncodesSpec)) uberEncodesCard

/-- THE TIED CARD OF 'permafrostlaw06.UberCrash'. -/
def uberCrashCard : Claim7 := { stood := { row := uberCrashRow, standIns := [], harness := (true, "aeff7c75064e86b79e4a5734fab85e1efb4af24545dc40a927bc3615d21042f1"), looks := false }, kinds := [], alts := [], laidByText := true, laidKinds := [.data], laidTests := true, laidLooks := .later }
def UberCrashCardSaid : Prop := Claim7.holds Tryd.pinned (.plain (OpenSpec.ofChange uberCrashSpec)) uberCrashCard

/-- THE TIED CARD OF 'permafrostlaw06.UberBack'. -/
def uberBackCard : Claim7 := { stood := { row := uberBackRow, standIns := [], harness := (true, "aeff7c75064e86b79e4a5734fab85e1efb4af24545dc40a927bc3615d21042f1"), looks := false }, kinds := [], alts := [], laidByText := true, laidKinds := [.data], laidTests := true, laidLooks := .later }
def UberBackCardSaid : Prop := Claim7.holds Tryd.pinned (.plain (OpenSpec.ofChange uberBackSpec)) uberBackCard

/-- THE TIED CARD OF 'permafrostlaw06.UberNewest'. -/
def uberNewestCard : Claim7 := { stood := { row := uberNewestRow, standIns := [], harness := (true, "aeff7c75064e86b79e4a5734fab85e1efb4af24545dc40a927bc3615d21042f1"), looks := false }, kinds := [], alts := [], laidByText := true, laidKinds := [.data], laidTests := true, laidLooks := .later }
def UberNewestCardSaid : Prop := Claim7.holds Tryd.pinned (.plain (OpenSpec.ofChange uberNewestSpec)) uberNewestCard

/-- THE TIED CARD OF 'permafrostlaw06.UberLoss'. -/
def uberLossCard : Claim7 := { stood := { row := uberLossRow, standIns := [], harness := (true, "aeff7c75064e86b79e4a5734fab85e1efb4af24545dc40a927bc3615d21042f1"), looks := false }, kinds := [], alts := [], laidByText := true, laidKinds := [.data], laidTests := true, laidLooks := .later }
def UberLossCardSaid : Prop := Claim7.holds Tryd.pinned (.plain (OpenSpec.ofChange uberLossSpec)) uberLossCard

/-- THE SECOND FORM's CARD OF 'permafrostlaw06.UberEncodes'. -/
def uberEncodesUptoCard : Claim7 := { stood := { row := uberEncodesUptoRow, standIns := [], harness := (true, "aeff7c75064e86b79e4a5734fab85e1efb4af24545dc40a927bc3615d21042f1"), looks := false }, kinds := [], alts := [], laidByText := true, laidKinds := [.data], laidTests := true, laidLooks := .later }
def UberEncodesUptoCardSaid : Prop := Claim7.holds Tryd.pinned (.plain (OpenSpec.upto uberEncodesSpec)) uberEncodesUptoCard

/-- THE SECOND FORM's CARD OF 'permafrostlaw06.UberCrash'. -/
def uberCrashUptoCard : Claim7 := { stood := { row := uberCrashUptoRow, standIns := [], harness := (true, "aeff7c75064e86b79e4a5734fab85e1efb4af24545dc40a927bc3615d21042f1"), looks := false }, kinds := [], alts := [], laidByText := true, laidKinds := [.data], laidTests := true, laidLooks := .later }
def UberCrashUptoCardSaid : Prop := Claim7.holds Tryd.pinned (.plain (OpenSpec.upto uberCrashSpec)) uberCrashUptoCard

/-- THE SECOND FORM's CARD OF 'permafrostlaw06.UberBack'. -/
def uberBackUptoCard : Claim7 := { stood := { row := uberBackUptoRow, standIns := [], harness := (true, "aeff7c75064e86b79e4a5734fab85e1efb4af24545dc40a927bc3615d21042f1"), looks := false }, kinds := [], alts := [], laidByText := true, laidKinds := [.data], laidTests := true, laidLooks := .later }
def UberBackUptoCardSaid : Prop := Claim7.holds Tryd.pinned (.plain (OpenSpec.upto uberBackSpec)) uberBackUptoCard

/-- THE SECOND FORM's CARD OF 'permafrostlaw06.UberNewest'. -/
def uberNewestUptoCard : Claim7 := { stood := { row := uberNewestUptoRow, standIns := [], harness := (true, "aeff7c75064e86b79e4a5734fab85e1efb4af24545dc40a927bc3615d21042f1"), looks := false }, kinds := [], alts := [], laidByText := true, laidKinds := [.data], laidTests := true, laidLooks := .later }
def UberNewestUptoCardSaid : Prop := Claim7.holds Tryd.pinned (.plain (OpenSpec.upto uberNewestSpec)) uberNewestUptoCard

/-- THE SECOND FORM's CARD OF 'permafrostlaw06.UberLoss'. -/
def uberLossUptoCard : Claim7 := { stood := { row := uberLossUptoRow, standIns := [], harness := (true, "aeff7c75064e86b79e4a5734fab85e1efb4af24545dc40a927bc3615d21042f1"), looks := false }, kinds := [], alts := [], laidByText := true, laidKinds := [.data], laidTests := true, laidLooks := .later }
def UberLossUptoCardSaid : Prop := Claim7.holds Tryd.pinned (.plain (OpenSpec.upto uberLossSpec)) uberLossUptoCard
end Rows
end Go.Proofs.YtcamcjcmhjldpaaDoor
