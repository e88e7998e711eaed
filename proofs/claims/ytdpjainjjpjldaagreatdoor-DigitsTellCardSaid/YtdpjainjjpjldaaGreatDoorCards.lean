/-
  DERIVED. GIVEN WITH THE SEED: THE CARDS: each row of YtdpjainjjpjldaaGreatDoorRows.lean that lists a variable, with what it lists TIED to the program's text (the seventh form; the later family's looks); each row that meets fmt, with fmt's text TOLD by the authors' own Lean function (tested against real Go, not proved from fmt's source: count such statements apart). THE CARD IS WHAT COUNTS. Prove the row's statement (the work); the ties are given (YtdpjainjjpjldaaGreatDoorTie.lean); close each card by the builder's one call (the guide's Derived/Test/ToyasCard.lean, 'card_holds'). Laid BY PROGRAM, IN A SANDBOX (cutbox-door.mjs). By AI agents, Wed Nov 11 2026. No macro, syntax, notation, axiom, sorry.
-/
import Derived.Test.YtdpjainjjpjldaaGreatDoorRows
import GoSem.ClaimSeven
namespace Go.Proofs.YtdpjainjjpjldaaGreatDoor
namespace Rows

/-- THE TIED CARD OF 'annuluslaw3.DigitsTell'. -/
def digitsTellCard : Claim7 := { stood := { row := digitsTellRow, standIns := [], harness := (true, "e2b5f1b32be1969375fc19676e6c575dd2e7684a26221bcdac57c64f584b4c39"), looks := true }, kinds := [], alts := [], laidByText := true, laidKinds := [.data, .data, .data, .data, .sentinel, .sentinel, .pinned], laidTests := true, laidLooks := .later }
def DigitsTellCardSaid : Prop := Claim7.holds Tryz.pinned (.plain (OpenSpec.ofChange digitsTellSpec)) digitsTellCard

/-- THE TIED CARD OF 'annuluslaw22.ExprTells'. -/
def exprTellsCard : Claim7 := { stood := { row := exprTellsRow, standIns := [], harness := (true, "e2b5f1b32be1969375fc19676e6c575dd2e7684a26221bcdac57c64f584b4c39"), looks := true }, kinds := [], alts := [], laidByText := true, laidKinds := [.data, .data, .data, .data, .sentinel, .sentinel, .pinned], laidTests := true, laidLooks := .later }
def ExprTellsCardSaid : Prop := Claim7.holds Tryz.pinned (.plain (OpenSpec.ofChange exprTellsSpec)) exprTellsCard

/-- THE TIED CARD OF 'annuluslaw22.ExprBack'. -/
def exprBackCard : Claim7 := { stood := { row := exprBackRow, standIns := [], harness := (true, "e2b5f1b32be1969375fc19676e6c575dd2e7684a26221bcdac57c64f584b4c39"), looks := true }, kinds := [], alts := [], laidByText := true, laidKinds := [.data, .data, .data, .data, .sentinel, .sentinel, .pinned], laidTests := true, laidLooks := .later }
def ExprBackCardSaid : Prop := Claim7.holds Tryz.pinned (.plain (OpenSpec.ofChange exprBackSpec)) exprBackCard

/-- THE TIED CARD OF 'annuluslaw22.ExprReads'. -/
def exprReadsCard : Claim7 := { stood := { row := exprReadsRow, standIns := [], harness := (true, "e2b5f1b32be1969375fc19676e6c575dd2e7684a26221bcdac57c64f584b4c39"), looks := true }, kinds := [], alts := [], laidByText := true, laidKinds := [.data, .data, .data, .data, .sentinel, .sentinel, .pinned], laidTests := true, laidLooks := .later }
def ExprReadsCardSaid : Prop := Claim7.holds Tryz.pinned (.plain (OpenSpec.ofChange exprReadsSpec)) exprReadsCard

/-- THE TIED CARD OF 'annuluslaw22.ExprNumbers'. -/
def exprNumbersCard : Claim7 := { stood := { row := exprNumbersRow, standIns := [], harness := (true, "e2b5f1b32be1969375fc19676e6c575dd2e7684a26221bcdac57c64f584b4c39"), looks := true }, kinds := [], alts := [], laidByText := true, laidKinds := [.data, .data, .data, .data, .sentinel, .sentinel, .pinned], laidTests := true, laidLooks := .later }
def ExprNumbersCardSaid : Prop := Claim7.holds Tryz.pinned (.plain (OpenSpec.ofChange exprNumbersSpec)) exprNumbersCard

/-- THE TIED CARD OF 'annuluslaw22.ExprSpoils'. -/
def exprSpoilsCard : Claim7 := { stood := { row := exprSpoilsRow, standIns := [], harness := (true, "e2b5f1b32be1969375fc19676e6c575dd2e7684a26221bcdac57c64f584b4c39"), looks := true }, kinds := [], alts := [], laidByText := true, laidKinds := [.data, .data, .data, .data, .sentinel, .sentinel, .pinned], laidTests := true, laidLooks := .later }
def ExprSpoilsCardSaid : Prop := Claim7.holds Tryz.pinned (.plain (OpenSpec.ofChange exprSpoilsSpec)) exprSpoilsCard

/-- THE TIED CARD OF 'annuluslaw22.ExprSums'. -/
def exprSumsCard : Claim7 := { stood := { row := exprSumsRow, standIns := [], harness := (true, "e2b5f1b32be1969375fc19676e6c575dd2e7684a26221bcdac57c64f584b4c39"), looks := true }, kinds := [], alts := [], laidByText := true, laidKinds := [.data, .data, .data, .data, .sentinel, .sentinel, .pinned], laidTests := true, laidLooks := .later }
def ExprSumsCardSaid : Prop := Claim7.holds Tryz.pinned (.plain (OpenSpec.ofChange exprSumsSpec)) exprSumsCard

/-- THE TIED CARD OF 'annuluslaw26.RequestTells'. -/
def requestTellsCard : Claim7 := { stood := { row := requestTellsRow, standIns := [], harness := (true, "e2b5f1b32be1969375fc19676e6c575dd2e7684a26221bcdac57c64f584b4c39"), looks := true }, kinds := [], alts := [], laidByText := true, laidKinds := [.data, .data, .data, .data, .sentinel, .sentinel, .pinned], laidTests := true, laidLooks := .later }
def RequestTellsCardSaid : Prop := Claim7.holds Tryz.pinned (.plain (OpenSpec.ofChange requestTellsSpec)) requestTellsCard

/-- THE TIED CARD OF 'annuluslaw26.RequestBack'. -/
def requestBackCard : Claim7 := { stood := { row := requestBackRow, standIns := [], harness := (true, "e2b5f1b32be1969375fc19676e6c575dd2e7684a26221bcdac57c64f584b4c39"), looks := true }, kinds := [], alts := [], laidByText := true, laidKinds := [.data, .data, .data, .data, .sentinel, .sentinel, .pinned], laidTests := true, laidLooks := .later }
def RequestBackCardSaid : Prop := Claim7.holds Tryz.pinned (.plain (OpenSpec.ofChange requestBackSpec)) requestBackCard

/-- THE TIED CARD OF 'annuluslaw26.RequestReads'. -/
def requestReadsCard : Claim7 := { stood := { row := requestReadsRow, standIns := [], harness := (true, "e2b5f1b32be1969375fc19676e6c575dd2e7684a26221bcdac57c64f584b4c39"), looks := true }, kinds := [], alts := [], laidByText := true, laidKinds := [.data, .data, .data, .data, .sentinel, .sentinel, .pinned], laidTests := true, laidLooks := .later }
def RequestReadsCardSaid : Prop := Claim7.holds Tryz.pinned (.plain (OpenSpec.ofChange requestReadsSpec)) requestReadsCard

/-- THE TIED CARD OF 'annuluslaw26.RequestSpoils'. -/
def requestSpoilsCard : Claim7 := { stood := { row := requestSpoilsRow, standIns := [], harness := (true, "e2b5f1b32be1969375fc19676e6c575dd2e7684a26221bcdac57c64f584b4c39"), looks := true }, kinds := [], alts := [], laidByText := true, laidKinds := [.data, .data, .data, .data, .sentinel, .sentinel, .pinned], laidTests := true, laidLooks := .later }
def RequestSpoilsCardSaid : Prop := Claim7.holds Tryz.pinned (.plain (OpenSpec.ofChange requestSpoilsSpec)) requestSpoilsCard

/-- THE SECOND FORM's CARD OF 'annuluslaw3.DigitsTell'. -/
def digitsTellUptoCard : Claim7 := { stood := { row := digitsTellUptoRow, standIns := [], harness := (true, "e2b5f1b32be1969375fc19676e6c575dd2e7684a26221bcdac57c64f584b4c39"), looks := true }, kinds := [], alts := [], laidByText := true, laidKinds := [.data, .data, .data, .data, .sentinel, .sentinel, .pinned], laidTests := true, laidLooks := .later }
def DigitsTellUptoCardSaid : Prop := Claim7.holds Tryz.pinned (.plain (OpenSpec.upto digitsTellSpec)) digitsTellUptoCard

/-- THE SECOND FORM's CARD OF 'annuluslaw22.ExprTells'. -/
def exprTellsUptoCard : Claim7 := { stood := { row := exprTellsUptoRow, standIns := [], harness := (true, "e2b5f1b32be1969375fc19676e6c575dd2e7684a26221bcdac57c64f584b4c39"), looks := true }, kinds := [], alts := [], laidByText := true, laidKinds := [.data, .data, .data, .data, .sentinel, .sentinel, .pinned], laidTests := true, laidLooks := .later }
def ExprTellsUptoCardSaid : Prop := Claim7.holds Tryz.pinned (.plain (OpenSpec.upto exprTellsSpec)) exprTellsUptoCard

/-- THE SECOND FORM's CARD OF 'annuluslaw22.ExprBack'. -/
def exprBackUptoCard : Claim7 := { stood := { row := exprBackUptoRow, standIns := [], harness := (true, "e2b5f1b32be1969375fc19676e6c575dd2e7684a26221bcdac57c64f584b4c39"), looks := true }, kinds := [], alts := [], laidByText := true, laidKinds := [.data, .data, .data, .data, .sentinel, .sentinel, .pinned], laidTests := true, laidLooks := .later }
def ExprBackUptoCardSaid : Prop := Claim7.holds Tryz.pinned (.plain (OpenSpec.upto exprBackSpec)) exprBackUptoCard

/-- THE SECOND FORM's CARD OF 'annuluslaw22.ExprReads'. -/
def exprReadsUptoCard : Claim7 := { stood := { row := exprReadsUptoRow, standIns := [], harness := (true, "e2b5f1b32be1969375fc19676e6c575dd2e7684a26221bcdac57c64f584b4c39"), looks := true }, kinds := [], alts := [], laidByText := true, laidKinds := [.data, .data, .data, .data, .sentinel, .sentinel, .pinned], laidTests := true, laidLooks := .later }
def ExprReadsUptoCardSaid : Prop := Claim7.holds Tryz.pinned (.plain (OpenSpec.upto exprReadsSpec)) exprReadsUptoCard

/-- THE SECOND FORM's CARD OF 'annuluslaw22.ExprNumbers'. -/
def exprNumbersUptoCard : Claim7 := { stood := { row := exprNumbersUptoRow, standIns := [], harness := (true, "e2b5f1b32be1969375fc19676e6c575dd2e7684a26221bcdac57c64f584b4c39"), looks := true }, kinds := [], alts := [], laidByText := true, laidKinds := [.data, .data, .data, .data, .sentinel, .sentinel, .pinned], laidTests := true, laidLooks := .later }
def ExprNumbersUptoCardSaid : Prop := Claim7.holds Tryz.pinned (.plain (OpenSpec.upto exprNumbersSpec)) exprNumbersUptoCard

/-- THE SECOND FORM's CARD OF 'annuluslaw22.ExprSpoils'. -/
def exprSpoilsUptoCard : Claim7 := { stood := { row := exprSpoilsUptoRow, standIns := [], harness := (true, "e2b5f1b32be1969375fc19676e6c575dd2e7684a26221bcdac57c64f584b4c39"), looks := true }, kinds := [], alts := [], laidByText := true, laidKinds := [.data, .data, .data, .data, .sentinel, .sentinel, .pinned], laidTests := true, laidLooks := .later }
def ExprSpoilsUptoCardSaid : Prop := Claim7.holds Tryz.pinned (.plain (OpenSpec.upto exprSpoilsSpec)) exprSpoilsUptoCard

/-- THE SECOND FORM's CARD OF 'annuluslaw22.ExprSums'. -/
def exprSumsUptoCard : Claim7 := { stood := { row := exprSumsUptoRow, standIns := [], harness := (true, "e2b5f1b32be1969375fc19676e6c575dd2e7684a26221bcdac57c64f584b4c39"), looks := true }, kinds := [], alts := [], laidByText := true, laidKinds := [.data, .data, .data, .data, .sentinel, .sentinel, .pinned], laidTests := true, laidLooks := .later }
def ExprSumsUptoCardSaid : Prop := Claim7.holds Tryz.pinned (.plain (OpenSpec.upto exprSumsSpec)) exprSumsUptoCard

/-- THE SECOND FORM's CARD OF 'annuluslaw26.RequestTells'. -/
def requestTellsUptoCard : Claim7 := { stood := { row := requestTellsUptoRow, standIns := [], harness := (true, "e2b5f1b32be1969375fc19676e6c575dd2e7684a26221bcdac57c64f584b4c39"), looks := true }, kinds := [], alts := [], laidByText := true, laidKinds := [.data, .data, .data, .data, .sentinel, .sentinel, .pinned], laidTests := true, laidLooks := .later }
def RequestTellsUptoCardSaid : Prop := Claim7.holds Tryz.pinned (.plain (OpenSpec.upto requestTellsSpec)) requestTellsUptoCard

/-- THE SECOND FORM's CARD OF 'annuluslaw26.RequestBack'. -/
def requestBackUptoCard : Claim7 := { stood := { row := requestBackUptoRow, standIns := [], harness := (true, "e2b5f1b32be1969375fc19676e6c575dd2e7684a26221bcdac57c64f584b4c39"), looks := true }, kinds := [], alts := [], laidByText := true, laidKinds := [.data, .data, .data, .data, .sentinel, .sentinel, .pinned], laidTests := true, laidLooks := .later }
def RequestBackUptoCardSaid : Prop := Claim7.holds Tryz.pinned (.plain (OpenSpec.upto requestBackSpec)) requestBackUptoCard

/-- THE SECOND FORM's CARD OF 'annuluslaw26.RequestReads'. -/
def requestReadsUptoCard : Claim7 := { stood := { row := requestReadsUptoRow, standIns := [], harness := (true, "e2b5f1b32be1969375fc19676e6c575dd2e7684a26221bcdac57c64f584b4c39"), looks := true }, kinds := [], alts := [], laidByText := true, laidKinds := [.data, .data, .data, .data, .sentinel, .sentinel, .pinned], laidTests := true, laidLooks := .later }
def RequestReadsUptoCardSaid : Prop := Claim7.holds Tryz.pinned (.plain (OpenSpec.upto requestReadsSpec)) requestReadsUptoCard

/-- THE SECOND FORM's CARD OF 'annuluslaw26.RequestSpoils'. -/
def requestSpoilsUptoCard : Claim7 := { stood := { row := requestSpoilsUptoRow, standIns := [], harness := (true, "e2b5f1b32be1969375fc19676e6c575dd2e7684a26221bcdac57c64f584b4c39"), looks := true }, kinds := [], alts := [], laidByText := true, laidKinds := [.data, .data, .data, .data, .sentinel, .sentinel, .pinned], laidTests := true, laidLooks := .later }
def RequestSpoilsUptoCardSaid : Prop := Claim7.holds Tryz.pinned (.plain (OpenSpec.upto requestSpoilsSpec)) requestSpoilsUptoCard
end Rows
end Go.Proofs.YtdpjainjjpjldaaGreatDoor
