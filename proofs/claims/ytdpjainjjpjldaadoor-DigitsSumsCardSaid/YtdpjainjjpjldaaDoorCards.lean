/-
  DERIVED. GIVEN WITH THE SEED: THE CARDS: each row of YtdpjainjjpjldaaDoorRows.lean that lists a variable, with what it lists TIED to the program's text (the seventh form; the later family's looks); each row that meets fmt, with fmt's text TOLD by the authors' own Lean function (tested against real Go, not proved from fmt's source: count such statements apart). THE CARD IS WHAT COUNTS. Prove the row's statement (the work); the ties are given (YtdpjainjjpjldaaDoorTie.lean); close each card by the builder's one call (the guide's Derived/Test/ToyasCard.lean, 'card_holds'). Laid BY PROGRAM, IN A SANDBOX (cutbox-door.mjs). By AI agents, Wed Nov 11 2026. No macro, syntax, notation, axiom, sorry.
-/
import Derived.Test.YtdpjainjjpjldaaDoorRows
import GoSem.ClaimSeven
namespace Go.Proofs.YtdpjainjjpjldaaDoor
namespace Rows

/-- THE TIED CARD OF 'annuluslaw3.DigitsBack'. -/
def digitsBackCard : Claim7 := { stood := { row := digitsBackRow, standIns := [], harness := (true, "97889065e518be65f5a872cae136d3736ff9c4a13d2d988a5ee9cc1207ddcc04"), looks := true }, kinds := [], alts := [], laidByText := true, laidKinds := [.data, .data, .data, .data, .sentinel, .sentinel, .pinned], laidTests := true, laidLooks := .later }
def DigitsBackCardSaid : Prop := Claim7.holds Tryd.pinned (.plain (OpenSpec.ofChange digitsBackSpec)) digitsBackCard

/-- THE TIED CARD OF 'annuluslaw3.DigitsLong'. -/
def digitsLongCard : Claim7 := { stood := { row := digitsLongRow, standIns := [], harness := (true, "97889065e518be65f5a872cae136d3736ff9c4a13d2d988a5ee9cc1207ddcc04"), looks := true }, kinds := [], alts := [], laidByText := true, laidKinds := [.data, .data, .data, .data, .sentinel, .sentinel, .pinned], laidTests := true, laidLooks := .later }
def DigitsLongCardSaid : Prop := Claim7.holds Tryd.pinned (.plain (OpenSpec.ofChange digitsLongSpec)) digitsLongCard

/-- THE TIED CARD OF 'annuluslaw3.DigitsSums'. -/
def digitsSumsCard : Claim7 := { stood := { row := digitsSumsRow, standIns := [], harness := (true, "97889065e518be65f5a872cae136d3736ff9c4a13d2d988a5ee9cc1207ddcc04"), looks := true }, kinds := [], alts := [], laidByText := true, laidKinds := [.data, .data, .data, .data, .sentinel, .sentinel, .pinned], laidTests := true, laidLooks := .later }
def DigitsSumsCardSaid : Prop := Claim7.holds Tryd.pinned (.plain (OpenSpec.ofChange digitsSumsSpec)) digitsSumsCard

/-- THE SECOND FORM's CARD OF 'annuluslaw3.DigitsBack'. -/
def digitsBackUptoCard : Claim7 := { stood := { row := digitsBackUptoRow, standIns := [], harness := (true, "97889065e518be65f5a872cae136d3736ff9c4a13d2d988a5ee9cc1207ddcc04"), looks := true }, kinds := [], alts := [], laidByText := true, laidKinds := [.data, .data, .data, .data, .sentinel, .sentinel, .pinned], laidTests := true, laidLooks := .later }
def DigitsBackUptoCardSaid : Prop := Claim7.holds Tryd.pinned (.plain (OpenSpec.upto digitsBackSpec)) digitsBackUptoCard

/-- THE SECOND FORM's CARD OF 'annuluslaw3.DigitsLong'. -/
def digitsLongUptoCard : Claim7 := { stood := { row := digitsLongUptoRow, standIns := [], harness := (true, "97889065e518be65f5a872cae136d3736ff9c4a13d2d988a5ee9cc1207ddcc04"), looks := true }, kinds := [], alts := [], laidByText := true, laidKinds := [.data, .data, .data, .data, .sentinel, .sentinel, .pinned], laidTests := true, laidLooks := .later }
def DigitsLongUptoCardSaid : Prop := Claim7.holds Tryd.pinned (.plain (OpenSpec.upto digitsLongSpec)) digitsLongUptoCard

/-- THE SECOND FORM's CARD OF 'annuluslaw3.DigitsSums'. -/
def digitsSumsUptoCard : Claim7 := { stood := { row := digitsSumsUptoRow, standIns := [], harness := (true, "97889065e518be65f5a872cae136d3736ff9c4a13d2d988a5ee9cc1207ddcc04"), looks := true }, kinds := [], alts := [], laidByText := true, laidKinds := [.data, .data, .data, .data, .sentinel, .sentinel, .pinned], laidTests := true, laidLooks := .later }
def DigitsSumsUptoCardSaid : Prop := Claim7.holds Tryd.pinned (.plain (OpenSpec.upto digitsSumsSpec)) digitsSumsUptoCard
end Rows
end Go.Proofs.YtdpjainjjpjldaaDoor
