/-
  DERIVED. GIVEN WITH THE SEED: THE CARDS: each row of YtlhhckpjcglinaaDoorRows.lean that lists a variable, with what it lists TIED to the program's text (the seventh form; the later family's looks); each row that meets fmt, with fmt's text TOLD by the authors' own Lean function (tested against real Go, not proved from fmt's source: count such statements apart). THE CARD IS WHAT COUNTS. Prove the row's statement (the work); the ties are given (YtlhhckpjcglinaaDoorTie.lean); close each card by the builder's one call (the guide's Derived/Test/ToyasCard.lean, 'card_holds'). Laid BY PROGRAM, IN A SANDBOX (cutbox-door.mjs). By AI agents, Wed Nov 11 2026. No macro, syntax, notation, axiom, sorry.
-/
import Derived.Test.YtlhhckpjcglinaaDoorRows
import GoSem.ClaimSeven
namespace Go.Proofs.YtlhhckpjcglinaaDoor
namespace Rows

/-- THE TIED CARD OF 'annuluslaw21.WindRings'. -/
def windRingsCard : Claim7 := { stood := { row := windRingsRow, standIns := [], harness := (true, "c2edecef2e81914ad940b5e249ec7d3e149664ad0e50c4e920d531a0bf7c1562"), looks := false }, kinds := [], alts := [], laidByText := true, laidKinds := [.data], laidTests := true, laidLooks := .later }
def WindRingsCardSaid : Prop := Claim7.holds Tryd.pinned (.plain (OpenSpec.ofChange windRingsSpec)) windRingsCard

/-- THE TIED CARD OF 'annuluslaw7.RealSigns'. -/
def realSignsCard : Claim7 := { stood := { row := realSignsRow, standIns := [], harness := (true, "c2edecef2e81914ad940b5e249ec7d3e149664ad0e50c4e920d531a0bf7c1562"), looks := false }, kinds := [], alts := [], laidByText := true, laidKinds := [.data], laidTests := true, laidLooks := .later }
def RealSignsCardSaid : Prop := Claim7.holds Tryd.pinned (.plain (OpenSpec.ofChange realSignsSpec)) realSignsCard

/-- THE TIED CARD OF 'annuluslaw7.RealLess'. -/
def realLessCard : Claim7 := { stood := { row := realLessRow, standIns := [], harness := (true, "c2edecef2e81914ad940b5e249ec7d3e149664ad0e50c4e920d531a0bf7c1562"), looks := false }, kinds := [], alts := [], laidByText := true, laidKinds := [.data], laidTests := true, laidLooks := .later }
def RealLessCardSaid : Prop := Claim7.holds Tryd.pinned (.plain (OpenSpec.ofChange realLessSpec)) realLessCard

/-- THE TIED CARD OF 'annuluslaw7.RealEnds'. -/
def realEndsCard : Claim7 := { stood := { row := realEndsRow, standIns := [], harness := (true, "c2edecef2e81914ad940b5e249ec7d3e149664ad0e50c4e920d531a0bf7c1562"), looks := false }, kinds := [], alts := [], laidByText := true, laidKinds := [.data], laidTests := true, laidLooks := .later }
def RealEndsCardSaid : Prop := Claim7.holds Tryd.pinned (.plain (OpenSpec.ofChange realEndsSpec)) realEndsCard

/-- THE SECOND FORM's CARD OF 'annuluslaw21.WindRings'. -/
def windRingsUptoCard : Claim7 := { stood := { row := windRingsUptoRow, standIns := [], harness := (true, "c2edecef2e81914ad940b5e249ec7d3e149664ad0e50c4e920d531a0bf7c1562"), looks := false }, kinds := [], alts := [], laidByText := true, laidKinds := [.data], laidTests := true, laidLooks := .later }
def WindRingsUptoCardSaid : Prop := Claim7.holds Tryd.pinned (.plain (OpenSpec.upto windRingsSpec)) windRingsUptoCard

/-- THE SECOND FORM's CARD OF 'annuluslaw7.RealSigns'. -/
def realSignsUptoCard : Claim7 := { stood := { row := realSignsUptoRow, standIns := [], harness := (true, "c2edecef2e81914ad940b5e249ec7d3e149664ad0e50c4e920d531a0bf7c1562"), looks := false }, kinds := [], alts := [], laidByText := true, laidKinds := [.data], laidTests := true, laidLooks := .later }
def RealSignsUptoCardSaid : Prop := Claim7.holds Tryd.pinned (.plain (OpenSpec.upto realSignsSpec)) realSignsUptoCard

/-- THE SECOND FORM's CARD OF 'annuluslaw7.RealLess'. -/
def realLessUptoCard : Claim7 := { stood := { row := realLessUptoRow, standIns := [], harness := (true, "c2edecef2e81914ad940b5e249ec7d3e149664ad0e50c4e920d531a0bf7c1562"), looks := false }, kinds := [], alts := [], laidByText := true, laidKinds := [.data], laidTests := true, laidLooks := .later }
def RealLessUptoCardSaid : Prop := Claim7.holds Tryd.pinned (.plain (OpenSpec.upto realLessSpec)) realLessUptoCard

/-- THE SECOND FORM's CARD OF 'annuluslaw7.RealEnds'. -/
def realEndsUptoCard : Claim7 := { stood := { row := realEndsUptoRow, standIns := [], harness := (true, "c2edecef2e81914ad940b5e249ec7d3e149664ad0e50c4e920d531a0bf7c1562"), looks := false }, kinds := [], alts := [], laidByText := true, laidKinds := [.data], laidTests := true, laidLooks := .later }
def RealEndsUptoCardSaid : Prop := Claim7.holds Tryd.pinned (.plain (OpenSpec.upto realEndsSpec)) realEndsUptoCard
end Rows
end Go.Proofs.YtlhhckpjcglinaaDoor
