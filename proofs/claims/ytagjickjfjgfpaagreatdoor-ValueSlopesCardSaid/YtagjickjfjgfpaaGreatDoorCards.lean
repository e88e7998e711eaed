/-
  DERIVED. GIVEN WITH THE SEED: THE CARDS: each row of YtagjickjfjgfpaaGreatDoorRows.lean that lists a variable, with what it lists TIED to the program's text (the seventh form; the later family's looks); each row that meets fmt, with fmt's text TOLD by the authors' own Lean function (tested against real Go, not proved from fmt's source: count such statements apart). THE CARD IS WHAT COUNTS. Prove the row's statement (the work); the ties are given (YtagjickjfjgfpaaGreatDoorTie.lean); close each card by the builder's one call (the guide's Derived/Test/ToyasCard.lean, 'card_holds'). Laid BY PROGRAM, IN A SANDBOX (cutbox-door.mjs). By AI agents, Wed Nov 11 2026. No macro, syntax, notation, axiom, sorry.
-/
import Derived.Test.YtagjickjfjgfpaaGreatDoorRows
import GoSem.ClaimSeven
namespace Go.Proofs.YtagjickjfjgfpaaGreatDoor
namespace Rows

/-- THE TIED CARD OF 'annuluslaw23.ElemRows'. -/
def elemRowsCard : Claim7 := { stood := { row := elemRowsRow, standIns := [], harness := (true, "158c14b45269d3072aab80a68005dfb0bf6c5abb85adf378f20ee4a3c8855dbe"), looks := false }, kinds := [], alts := [], laidByText := true, laidKinds := [.data], laidTests := true, laidLooks := .later }
def ElemRowsCardSaid : Prop := Claim7.holds Tryz.pinned (.plain (OpenSpec.ofChange elemRowsSpec)) elemRowsCard

/-- THE TIED CARD OF 'annuluslaw23.ElemWide'. -/
def elemWideCard : Claim7 := { stood := { row := elemWideRow, standIns := [], harness := (true, "158c14b45269d3072aab80a68005dfb0bf6c5abb85adf378f20ee4a3c8855dbe"), looks := false }, kinds := [], alts := [], laidByText := true, laidKinds := [.data], laidTests := true, laidLooks := .later }
def ElemWideCardSaid : Prop := Claim7.holds Tryz.pinned (.plain (OpenSpec.ofChange elemWideSpec)) elemWideCard

/-- THE TIED CARD OF 'annuluslaw23.ElemSums'. -/
def elemSumsCard : Claim7 := { stood := { row := elemSumsRow, standIns := [], harness := (true, "158c14b45269d3072aab80a68005dfb0bf6c5abb85adf378f20ee4a3c8855dbe"), looks := false }, kinds := [], alts := [], laidByText := true, laidKinds := [.data], laidTests := true, laidLooks := .later }
def ElemSumsCardSaid : Prop := Claim7.holds Tryz.pinned (.plain (OpenSpec.ofChange elemSumsSpec)) elemSumsCard

/-- THE TIED CARD OF 'annuluslaw23.ElemIn'. -/
def elemInCard : Claim7 := { stood := { row := elemInRow, standIns := [], harness := (true, "158c14b45269d3072aab80a68005dfb0bf6c5abb85adf378f20ee4a3c8855dbe"), looks := false }, kinds := [], alts := [], laidByText := true, laidKinds := [.data], laidTests := true, laidLooks := .later }
def ElemInCardSaid : Prop := Claim7.holds Tryz.pinned (.plain (OpenSpec.ofChange elemInSpec)) elemInCard

/-- THE TIED CARD OF 'annuluslaw23.ElemPlane'. -/
def elemPlaneCard : Claim7 := { stood := { row := elemPlaneRow, standIns := [], harness := (true, "158c14b45269d3072aab80a68005dfb0bf6c5abb85adf378f20ee4a3c8855dbe"), looks := false }, kinds := [], alts := [], laidByText := true, laidKinds := [.data], laidTests := true, laidLooks := .later }
def ElemPlaneCardSaid : Prop := Claim7.holds Tryz.pinned (.plain (OpenSpec.ofChange elemPlaneSpec)) elemPlaneCard

/-- THE TIED CARD OF 'annuluslaw24.ValueExact'. -/
def valueExactCard : Claim7 := { stood := { row := valueExactRow, standIns := [], harness := (true, "158c14b45269d3072aab80a68005dfb0bf6c5abb85adf378f20ee4a3c8855dbe"), looks := false }, kinds := [], alts := [], laidByText := true, laidKinds := [.data], laidTests := true, laidLooks := .later }
def ValueExactCardSaid : Prop := Claim7.holds Tryz.pinned (.plain (OpenSpec.ofChange valueExactSpec)) valueExactCard

/-- THE TIED CARD OF 'annuluslaw24.ValueZero'. -/
def valueZeroCard : Claim7 := { stood := { row := valueZeroRow, standIns := [], harness := (true, "158c14b45269d3072aab80a68005dfb0bf6c5abb85adf378f20ee4a3c8855dbe"), looks := false }, kinds := [], alts := [], laidByText := true, laidKinds := [.data], laidTests := true, laidLooks := .later }
def ValueZeroCardSaid : Prop := Claim7.holds Tryz.pinned (.plain (OpenSpec.ofChange valueZeroSpec)) valueZeroCard

/-- THE TIED CARD OF 'annuluslaw24.ValueSlopes'. -/
def valueSlopesCard : Claim7 := { stood := { row := valueSlopesRow, standIns := [], harness := (true, "158c14b45269d3072aab80a68005dfb0bf6c5abb85adf378f20ee4a3c8855dbe"), looks := false }, kinds := [], alts := [], laidByText := true, laidKinds := [.data], laidTests := true, laidLooks := .later }
def ValueSlopesCardSaid : Prop := Claim7.holds Tryz.pinned (.plain (OpenSpec.ofChange valueSlopesSpec)) valueSlopesCard

/-- THE TIED CARD OF 'annuluslaw24.ValueFractions'. -/
def valueFractionsCard : Claim7 := { stood := { row := valueFractionsRow, standIns := [], harness := (true, "158c14b45269d3072aab80a68005dfb0bf6c5abb85adf378f20ee4a3c8855dbe"), looks := false }, kinds := [], alts := [], laidByText := true, laidKinds := [.data], laidTests := true, laidLooks := .later }
def ValueFractionsCardSaid : Prop := Claim7.holds Tryz.pinned (.plain (OpenSpec.ofChange valueFractionsSpec)) valueFractionsCard

/-- THE SECOND FORM's CARD OF 'annuluslaw23.ElemRows'. -/
def elemRowsUptoCard : Claim7 := { stood := { row := elemRowsUptoRow, standIns := [], harness := (true, "158c14b45269d3072aab80a68005dfb0bf6c5abb85adf378f20ee4a3c8855dbe"), looks := false }, kinds := [], alts := [], laidByText := true, laidKinds := [.data], laidTests := true, laidLooks := .later }
def ElemRowsUptoCardSaid : Prop := Claim7.holds Tryz.pinned (.plain (OpenSpec.upto elemRowsSpec)) elemRowsUptoCard

/-- THE SECOND FORM's CARD OF 'annuluslaw23.ElemWide'. -/
def elemWideUptoCard : Claim7 := { stood := { row := elemWideUptoRow, standIns := [], harness := (true, "158c14b45269d3072aab80a68005dfb0bf6c5abb85adf378f20ee4a3c8855dbe"), looks := false }, kinds := [], alts := [], laidByText := true, laidKinds := [.data], laidTests := true, laidLooks := .later }
def ElemWideUptoCardSaid : Prop := Claim7.holds Tryz.pinned (.plain (OpenSpec.upto elemWideSpec)) elemWideUptoCard

/-- THE SECOND FORM's CARD OF 'annuluslaw23.ElemSums'. -/
def elemSumsUptoCard : Claim7 := { stood := { row := elemSumsUptoRow, standIns := [], harness := (true, "158c14b45269d3072aab80a68005dfb0bf6c5abb85adf378f20ee4a3c8855dbe"), looks := false }, kinds := [], alts := [], laidByText := true, laidKinds := [.data], laidTests := true, laidLooks := .later }
def ElemSumsUptoCardSaid : Prop := Claim7.holds Tryz.pinned (.plain (OpenSpec.upto elemSumsSpec)) elemSumsUptoCard

/-- THE SECOND FORM's CARD OF 'annuluslaw23.ElemIn'. -/
def elemInUptoCard : Claim7 := { stood := { row := elemInUptoRow, standIns := [], harness := (true, "158c14b45269d3072aab80a68005dfb0bf6c5abb85adf378f20ee4a3c8855dbe"), looks := false }, kinds := [], alts := [], laidByText := true, laidKinds := [.data], laidTests := true, laidLooks := .later }
def ElemInUptoCardSaid : Prop := Claim7.holds Tryz.pinned (.plain (OpenSpec.upto elemInSpec)) elemInUptoCard

/-- THE SECOND FORM's CARD OF 'annuluslaw23.ElemPlane'. -/
def elemPlaneUptoCard : Claim7 := { stood := { row := elemPlaneUptoRow, standIns := [], harness := (true, "158c14b45269d3072aab80a68005dfb0bf6c5abb85adf378f20ee4a3c8855dbe"), looks := false }, kinds := [], alts := [], laidByText := true, laidKinds := [.data], laidTests := true, laidLooks := .later }
def ElemPlaneUptoCardSaid : Prop := Claim7.holds Tryz.pinned (.plain (OpenSpec.upto elemPlaneSpec)) elemPlaneUptoCard

/-- THE SECOND FORM's CARD OF 'annuluslaw24.ValueExact'. -/
def valueExactUptoCard : Claim7 := { stood := { row := valueExactUptoRow, standIns := [], harness := (true, "158c14b45269d3072aab80a68005dfb0bf6c5abb85adf378f20ee4a3c8855dbe"), looks := false }, kinds := [], alts := [], laidByText := true, laidKinds := [.data], laidTests := true, laidLooks := .later }
def ValueExactUptoCardSaid : Prop := Claim7.holds Tryz.pinned (.plain (OpenSpec.upto valueExactSpec)) valueExactUptoCard

/-- THE SECOND FORM's CARD OF 'annuluslaw24.ValueZero'. -/
def valueZeroUptoCard : Claim7 := { stood := { row := valueZeroUptoRow, standIns := [], harness := (true, "158c14b45269d3072aab80a68005dfb0bf6c5abb85adf378f20ee4a3c8855dbe"), looks := false }, kinds := [], alts := [], laidByText := true, laidKinds := [.data], laidTests := true, laidLooks := .later }
def ValueZeroUptoCardSaid : Prop := Claim7.holds Tryz.pinned (.plain (OpenSpec.upto valueZeroSpec)) valueZeroUptoCard

/-- THE SECOND FORM's CARD OF 'annuluslaw24.ValueSlopes'. -/
def valueSlopesUptoCard : Claim7 := { stood := { row := valueSlopesUptoRow, standIns := [], harness := (true, "158c14b45269d3072aab80a68005dfb0bf6c5abb85adf378f20ee4a3c8855dbe"), looks := false }, kinds := [], alts := [], laidByText := true, laidKinds := [.data], laidTests := true, laidLooks := .later }
def ValueSlopesUptoCardSaid : Prop := Claim7.holds Tryz.pinned (.plain (OpenSpec.upto valueSlopesSpec)) valueSlopesUptoCard

/-- THE SECOND FORM's CARD OF 'annuluslaw24.ValueFractions'. -/
def valueFractionsUptoCard : Claim7 := { stood := { row := valueFractionsUptoRow, standIns := [], harness := (true, "158c14b45269d3072aab80a68005dfb0bf6c5abb85adf378f20ee4a3c8855dbe"), looks := false }, kinds := [], alts := [], laidByText := true, laidKinds := [.data], laidTests := true, laidLooks := .later }
def ValueFractionsUptoCardSaid : Prop := Claim7.holds Tryz.pinned (.plain (OpenSpec.upto valueFractionsSpec)) valueFractionsUptoCard
end Rows
end Go.Proofs.YtagjickjfjgfpaaGreatDoor
