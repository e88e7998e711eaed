/-
  DERIVED. GIVEN WITH THE SEED: THE CARDS: each row of YtlhhckpjcglinaaGreatDoorRows.lean that lists a variable, with what it lists TIED to the program's text (the seventh form; the later family's looks); each row that meets fmt, with fmt's text TOLD by the authors' own Lean function (tested against real Go, not proved from fmt's source: count such statements apart). THE CARD IS WHAT COUNTS. Prove the row's statement (the work); the ties are given (YtlhhckpjcglinaaGreatDoorTie.lean); close each card by the builder's one call (the guide's Derived/Test/ToyasCard.lean, 'card_holds'). Laid BY PROGRAM, IN A SANDBOX (cutbox-door.mjs). By AI agents, Wed Nov 11 2026. No macro, syntax, notation, axiom, sorry.
-/
import Derived.Test.YtlhhckpjcglinaaGreatDoorRows
import GoSem.ClaimSeven
namespace Go.Proofs.YtlhhckpjcglinaaGreatDoor
namespace Rows

/-- THE TIED CARD OF 'annuluslaw16.BoxTells'. -/
def boxTellsCard : Claim7 := { stood := { row := boxTellsRow, standIns := [], harness := (true, "ff6d9406af46516ab381256b9dd8b65e14a0e5b368d317e81127cd66c2f5b17c"), looks := false }, kinds := [], alts := [], laidByText := true, laidKinds := [.data], laidTests := true, laidLooks := .later }
def BoxTellsCardSaid : Prop := Claim7.holds Tryz.pinned (.plain (OpenSpec.ofChange boxTellsSpec)) boxTellsCard

/-- THE TIED CARD OF 'annuluslaw16.BoxWhole'. -/
def boxWholeCard : Claim7 := { stood := { row := boxWholeRow, standIns := [], harness := (true, "ff6d9406af46516ab381256b9dd8b65e14a0e5b368d317e81127cd66c2f5b17c"), looks := false }, kinds := [], alts := [], laidByText := true, laidKinds := [.data], laidTests := true, laidLooks := .later }
def BoxWholeCardSaid : Prop := Claim7.holds Tryz.pinned (.plain (OpenSpec.ofChange boxWholeSpec)) boxWholeCard

/-- THE TIED CARD OF 'annuluslaw7.RealTells'. -/
def realTellsCard : Claim7 := { stood := { row := realTellsRow, standIns := [], harness := (true, "ff6d9406af46516ab381256b9dd8b65e14a0e5b368d317e81127cd66c2f5b17c"), looks := false }, kinds := [], alts := [], laidByText := true, laidKinds := [.data], laidTests := true, laidLooks := .later }
def RealTellsCardSaid : Prop := Claim7.holds Tryz.pinned (.plain (OpenSpec.ofChange realTellsSpec)) realTellsCard

/-- THE TIED CARD OF 'annuluslaw7.RealRounds'. -/
def realRoundsCard : Claim7 := { stood := { row := realRoundsRow, standIns := [], harness := (true, "ff6d9406af46516ab381256b9dd8b65e14a0e5b368d317e81127cd66c2f5b17c"), looks := false }, kinds := [], alts := [], laidByText := true, laidKinds := [.data], laidTests := true, laidLooks := .later }
def RealRoundsCardSaid : Prop := Claim7.holds Tryz.pinned (.plain (OpenSpec.ofChange realRoundsSpec)) realRoundsCard

/-- THE TIED CARD OF 'annuluslaw7.RealHolds'. -/
def realHoldsCard : Claim7 := { stood := { row := realHoldsRow, standIns := [], harness := (true, "ff6d9406af46516ab381256b9dd8b65e14a0e5b368d317e81127cd66c2f5b17c"), looks := false }, kinds := [], alts := [], laidByText := true, laidKinds := [.data], laidTests := true, laidLooks := .later }
def RealHoldsCardSaid : Prop := Claim7.holds Tryz.pinned (.plain (OpenSpec.ofChange realHoldsSpec)) realHoldsCard

/-- THE TIED CARD OF 'annuluslaw9.RectRounds'. -/
def rectRoundsCard : Claim7 := { stood := { row := rectRoundsRow, standIns := [], harness := (true, "ff6d9406af46516ab381256b9dd8b65e14a0e5b368d317e81127cd66c2f5b17c"), looks := false }, kinds := [], alts := [], laidByText := true, laidKinds := [.data], laidTests := true, laidLooks := .later }
def RectRoundsCardSaid : Prop := Claim7.holds Tryz.pinned (.plain (OpenSpec.ofChange rectRoundsSpec)) rectRoundsCard

/-- THE TIED CARD OF 'annuluslaw9.RectPoints'. -/
def rectPointsCard : Claim7 := { stood := { row := rectPointsRow, standIns := [], harness := (true, "ff6d9406af46516ab381256b9dd8b65e14a0e5b368d317e81127cd66c2f5b17c"), looks := false }, kinds := [], alts := [], laidByText := true, laidKinds := [.data], laidTests := true, laidLooks := .later }
def RectPointsCardSaid : Prop := Claim7.holds Tryz.pinned (.plain (OpenSpec.ofChange rectPointsSpec)) rectPointsCard

/-- THE TIED CARD OF 'annuluslaw9.RectLess'. -/
def rectLessCard : Claim7 := { stood := { row := rectLessRow, standIns := [], harness := (true, "ff6d9406af46516ab381256b9dd8b65e14a0e5b368d317e81127cd66c2f5b17c"), looks := false }, kinds := [], alts := [], laidByText := true, laidKinds := [.data], laidTests := true, laidLooks := .later }
def RectLessCardSaid : Prop := Claim7.holds Tryz.pinned (.plain (OpenSpec.ofChange rectLessSpec)) rectLessCard

/-- THE TIED CARD OF 'annuluslaw9.RectTells'. -/
def rectTellsCard : Claim7 := { stood := { row := rectTellsRow, standIns := [], harness := (true, "ff6d9406af46516ab381256b9dd8b65e14a0e5b368d317e81127cd66c2f5b17c"), looks := false }, kinds := [], alts := [], laidByText := true, laidKinds := [.data], laidTests := true, laidLooks := .later }
def RectTellsCardSaid : Prop := Claim7.holds Tryz.pinned (.plain (OpenSpec.ofChange rectTellsSpec)) rectTellsCard

/-- THE TIED CARD OF 'annuluslaw9.RectHolds'. -/
def rectHoldsCard : Claim7 := { stood := { row := rectHoldsRow, standIns := [], harness := (true, "ff6d9406af46516ab381256b9dd8b65e14a0e5b368d317e81127cd66c2f5b17c"), looks := false }, kinds := [], alts := [], laidByText := true, laidKinds := [.data], laidTests := true, laidLooks := .later }
def RectHoldsCardSaid : Prop := Claim7.holds Tryz.pinned (.plain (OpenSpec.ofChange rectHoldsSpec)) rectHoldsCard

/-- THE SECOND FORM's CARD OF 'annuluslaw16.BoxTells'. -/
def boxTellsUptoCard : Claim7 := { stood := { row := boxTellsUptoRow, standIns := [], harness := (true, "ff6d9406af46516ab381256b9dd8b65e14a0e5b368d317e81127cd66c2f5b17c"), looks := false }, kinds := [], alts := [], laidByText := true, laidKinds := [.data], laidTests := true, laidLooks := .later }
def BoxTellsUptoCardSaid : Prop := Claim7.holds Tryz.pinned (.plain (OpenSpec.upto boxTellsSpec)) boxTellsUptoCard

/-- THE SECOND FORM's CARD OF 'annuluslaw16.BoxWhole'. -/
def boxWholeUptoCard : Claim7 := { stood := { row := boxWholeUptoRow, standIns := [], harness := (true, "ff6d9406af46516ab381256b9dd8b65e14a0e5b368d317e81127cd66c2f5b17c"), looks := false }, kinds := [], alts := [], laidByText := true, laidKinds := [.data], laidTests := true, laidLooks := .later }
def BoxWholeUptoCardSaid : Prop := Claim7.holds Tryz.pinned (.plain (OpenSpec.upto boxWholeSpec)) boxWholeUptoCard

/-- THE SECOND FORM's CARD OF 'annuluslaw7.RealTells'. -/
def realTellsUptoCard : Claim7 := { stood := { row := realTellsUptoRow, standIns := [], harness := (true, "ff6d9406af46516ab381256b9dd8b65e14a0e5b368d317e81127cd66c2f5b17c"), looks := false }, kinds := [], alts := [], laidByText := true, laidKinds := [.data], laidTests := true, laidLooks := .later }
def RealTellsUptoCardSaid : Prop := Claim7.holds Tryz.pinned (.plain (OpenSpec.upto realTellsSpec)) realTellsUptoCard

/-- THE SECOND FORM's CARD OF 'annuluslaw7.RealRounds'. -/
def realRoundsUptoCard : Claim7 := { stood := { row := realRoundsUptoRow, standIns := [], harness := (true, "ff6d9406af46516ab381256b9dd8b65e14a0e5b368d317e81127cd66c2f5b17c"), looks := false }, kinds := [], alts := [], laidByText := true, laidKinds := [.data], laidTests := true, laidLooks := .later }
def RealRoundsUptoCardSaid : Prop := Claim7.holds Tryz.pinned (.plain (OpenSpec.upto realRoundsSpec)) realRoundsUptoCard

/-- THE SECOND FORM's CARD OF 'annuluslaw7.RealHolds'. -/
def realHoldsUptoCard : Claim7 := { stood := { row := realHoldsUptoRow, standIns := [], harness := (true, "ff6d9406af46516ab381256b9dd8b65e14a0e5b368d317e81127cd66c2f5b17c"), looks := false }, kinds := [], alts := [], laidByText := true, laidKinds := [.data], laidTests := true, laidLooks := .later }
def RealHoldsUptoCardSaid : Prop := Claim7.holds Tryz.pinned (.plain (OpenSpec.upto realHoldsSpec)) realHoldsUptoCard

/-- THE SECOND FORM's CARD OF 'annuluslaw9.RectRounds'. -/
def rectRoundsUptoCard : Claim7 := { stood := { row := rectRoundsUptoRow, standIns := [], harness := (true, "ff6d9406af46516ab381256b9dd8b65e14a0e5b368d317e81127cd66c2f5b17c"), looks := false }, kinds := [], alts := [], laidByText := true, laidKinds := [.data], laidTests := true, laidLooks := .later }
def RectRoundsUptoCardSaid : Prop := Claim7.holds Tryz.pinned (.plain (OpenSpec.upto rectRoundsSpec)) rectRoundsUptoCard

/-- THE SECOND FORM's CARD OF 'annuluslaw9.RectPoints'. -/
def rectPointsUptoCard : Claim7 := { stood := { row := rectPointsUptoRow, standIns := [], harness := (true, "ff6d9406af46516ab381256b9dd8b65e14a0e5b368d317e81127cd66c2f5b17c"), looks := false }, kinds := [], alts := [], laidByText := true, laidKinds := [.data], laidTests := true, laidLooks := .later }
def RectPointsUptoCardSaid : Prop := Claim7.holds Tryz.pinned (.plain (OpenSpec.upto rectPointsSpec)) rectPointsUptoCard

/-- THE SECOND FORM's CARD OF 'annuluslaw9.RectLess'. -/
def rectLessUptoCard : Claim7 := { stood := { row := rectLessUptoRow, standIns := [], harness := (true, "ff6d9406af46516ab381256b9dd8b65e14a0e5b368d317e81127cd66c2f5b17c"), looks := false }, kinds := [], alts := [], laidByText := true, laidKinds := [.data], laidTests := true, laidLooks := .later }
def RectLessUptoCardSaid : Prop := Claim7.holds Tryz.pinned (.plain (OpenSpec.upto rectLessSpec)) rectLessUptoCard

/-- THE SECOND FORM's CARD OF 'annuluslaw9.RectTells'. -/
def rectTellsUptoCard : Claim7 := { stood := { row := rectTellsUptoRow, standIns := [], harness := (true, "ff6d9406af46516ab381256b9dd8b65e14a0e5b368d317e81127cd66c2f5b17c"), looks := false }, kinds := [], alts := [], laidByText := true, laidKinds := [.data], laidTests := true, laidLooks := .later }
def RectTellsUptoCardSaid : Prop := Claim7.holds Tryz.pinned (.plain (OpenSpec.upto rectTellsSpec)) rectTellsUptoCard

/-- THE SECOND FORM's CARD OF 'annuluslaw9.RectHolds'. -/
def rectHoldsUptoCard : Claim7 := { stood := { row := rectHoldsUptoRow, standIns := [], harness := (true, "ff6d9406af46516ab381256b9dd8b65e14a0e5b368d317e81127cd66c2f5b17c"), looks := false }, kinds := [], alts := [], laidByText := true, laidKinds := [.data], laidTests := true, laidLooks := .later }
def RectHoldsUptoCardSaid : Prop := Claim7.holds Tryz.pinned (.plain (OpenSpec.upto rectHoldsSpec)) rectHoldsUptoCard
end Rows
end Go.Proofs.YtlhhckpjcglinaaGreatDoor
